/- slices.insertionSortCmpFunc, pdqsortCmpFunc, SortFunc at a list of numbers below m + 1, by a comparison that turns nothing old. Condition: at most 12 numbers. cmp.Compare, cmp.Or at two ints; the order that slices.SortFunc finds for the rests. No condition. Allocation: the comparison of rests that positive sorts by. Condition: rests of bounded length. -/
import Derived.Test.YtpipkeplhkccoaaGreatDoorFa
import Derived.Test.YtpipkeplhkccoaaGreatDoorId
import Derived.Sort.LotA
import Derived.Shelf.RegionOpen
import Derived.BigRegion
import Derived.WalkKit
import Derived.Test.YtpipkeplhkccoaaGreatDoorSP
import Derived.Test.YtpipkeplhkccoaaGreatDoorIe
import Derived.Test.YtpipkeplhkccoaaGreatDoorWP
import Derived.Test.YtpipkeplhkccoaaGreatDoorFc
namespace Go.Proofs.YtpipkeplhkccoaaGreatDoor
open Go.RowKit Go.Shelf Go.Sort

def ltC {α : Type} (cf : α → α → Int) (x y : α) : Bool := decide (cf x y < 0)
section
variable {α : Type} [Inhabited α] (lt : α → α → Bool)
theorem inn_go (a j : Nat) (d : Array α) (hj : a < j) (hl : lt d[j]! d[j - 1]! = true) : insInner lt a j d = insInner lt a (j - 1) (swp d j (j - 1)) := by
  obtain ⟨k, rfl⟩ : ∃ k, j = k + 1 := ⟨j - 1, by omega⟩
  rw [insInner]
  simp only [Nat.add_sub_cancel] at hl ⊢
  simp [hj, hl]
theorem inn_stop (a j : Nat) (d : Array α) (h : j ≤ a ∨ lt d[j]! d[j - 1]! = false) : insInner lt a j d = d := by
  cases j with
  | zero => rw [insInner]
  | succ k =>
    rw [insInner]
    simp only [Nat.add_sub_cancel] at h
    rcases h with h | h
    · simp [show ¬ k + 1 > a by omega]
    · simp [h]
theorem out_go (a b i : Nat) (d : Array α) (h : i < b) : insOuter lt a b i d = insOuter lt a b (i + 1) (insInner lt a i d) := by rw [insOuter, if_pos h]
theorem out_stop (a b i : Nat) (d : Array α) (h : ¬ i < b) : insOuter lt a b i d = d := by rw [insOuter, if_neg h]
end
section
variable {m : Nat}
def encF (x : Fin (m + 1)) : Value := .int .i64 (x.val : Int)
/-- the block of the list holds dk; all else lies as it lay, but for new blocks -/
structure SoW (w0 : World) (blk : Nat) (dk : Array (Fin (m + 1))) (W : World) : Prop where
  gr : w0.grownBy W (some blk)
  row : W.heap[blk]? = some (.cells (dk.map encF) 3 (0, 0))
variable {w0 W W' : World} {blk : Nat} {dk : Array (Fin (m + 1))}
theorem SoW.lt (h : SoW w0 blk dk W) : blk < W.heap.size := (Array.getElem?_eq_some_iff.1 h.row).1
theorem SoW.on (h : SoW w0 blk dk W) (hb : Below W.heap.size W W') : SoW w0 blk dk W' :=
  ⟨⟨hb.os.trans h.gr.os, hb.tape.trans h.gr.tape, hb.output.trans h.gr.output, Nat.le_trans h.gr.size hb.size, fun k hk hne => (hb.block k (Nat.lt_of_lt_of_le hk h.gr.size)).trans (h.gr.block k hk hne)⟩, (hb.block _ h.lt).trans h.row⟩
theorem SoW.kept (h : SoW w0 blk dk W) (u : Kept W) : SoW w0 blk dk u.W := h.on u.low
theorem SoW.cell (h : SoW w0 blk dk W) {i : Nat} (hi : i < dk.size) : W.cell? ⟨blk, i, none⟩ = some (.int .i64 (dk[i]!.val : Int)) := by
  simp [World.cell?, h.row, hi, encF]
theorem SoW.frozen (h : SoW w0 blk dk W) (i : Nat) : W.frozen? ⟨blk, i, none⟩ = false := by simp [World.frozen?, h.row]
theorem SoW.set (h : SoW w0 blk dk W) (i : Nat) (x : Fin (m + 1)) : SoW w0 blk (dk.setIfInBounds i x) (W.setCell ⟨blk, i, none⟩ (.int .i64 (x.val : Int))) := by
  refine ⟨⟨h.gr.os, h.gr.tape, h.gr.output, Nat.le_trans h.gr.size (by simp [World.setCell]), fun k hk hne => (Below.heap_setCell _ _ _ k (fun e => hne (by rw [e]))).trans (h.gr.block k hk hne)⟩, ?_⟩
  have e : (.int .i64 (x.val : Int) : Value) = encF x := rfl
  rw [e]
  simp [World.setCell, Array.getElem?_modify, h.row, Array.map_setIfInBounds]
theorem SoW.swap (h : SoW w0 blk dk W) (i j : Nat) : SoW w0 blk (swp dk i j) ((W.setCell ⟨blk, i, none⟩ (.int .i64 (dk[j]!.val : Int))).setCell ⟨blk, j, none⟩ (.int .i64 (dk[i]!.val : Int))) := (h.set i dk[j]!).set j dk[i]!
theorem SoW.drew (h : SoW w0 blk dk W) : SoW w0 blk dk W.drew := h.on (Below.refl _ W).drew
end
/-- what is asked of the comparison -/
def CmpK {m : Nat} (w0 : World) (blk : Nat) (g : FuncId) (cb : Array Value) (cf : Fin (m + 1) → Fin (m + 1) → Int) : Prop :=
  ∀ W, w0.grownBy W (some blk) → ∀ x y : Fin (m + 1), Calls Tryz.prog g (#[.int .i64 (x.val : Int), .int .i64 (y.val : Int)] ++ cb) W fun e w' => e = .returned (.int .i64 (cf x y)) ∧ Below W.heap.size W w'
theorem CmpK.at {m : Nat} {w0 : World} {blk : Nat} {g : FuncId} {cb : Array Value} {cf : Fin (m + 1) → Fin (m + 1) → Int} (h : CmpK w0 blk g cb cf) {dk : Array (Fin (m + 1))} {W : World} (S : SoW w0 blk dk W) (x y : Fin (m + 1)) (u : Kept W) :
    Calls Tryz.prog g (#[.int .i64 (x.val : Int), .int .i64 (y.val : Int)] ++ cb) u.W fun e w'' => e = .returned (.int .i64 (cf x y)) ∧ ∃ u' : Kept W, w'' = u'.W :=
  (h _ (S.kept u).gr x y).mono fun _ w'' ⟨he, hb⟩ => ⟨he, ⟨w'', u.low.trans (hb.mono u.low.size)⟩, rfl⟩
set_option maxRecDepth 100000 in
set_option maxHeartbeats 4000000 in
theorem ins_any {m blk n : Nat} {g : FuncId} {cb : Array Value} {cf : Fin (m + 1) → Fin (m + 1) → Int} {d : Array (Fin (m + 1))} {w0 w : World} (hcf : ∀ (args : Array Value) (u : World), (callFunc g args).run Tryz.prog u = .ok (.enter g args) u)
    (hcmp : CmpK w0 blk g cb cf) (hn : d.size = n) (h12 : n ≤ 12) (S : SoW w0 blk d w) :
    Calls Tryz.prog 218 #[.slice (some ⟨blk, 0, none⟩) n n, .int .i64 0, .int .i64 (n : Int), .func (.func g) #[] cb] w fun e w' => e = .returned (.tuple #[]) ∧ SoW w0 blk (insertionSort (ltC cf) d 0 n) w' := by
  have HC := Lib.hid hcmp
  have S0 := Lib.hid S
  have HN := Lib.hid hn
  clear hcmp S hn
  go_enter Tryz.func218, Tryz.ntmps218
  go_wp2_with fail
  go_loopw [8] (fun s wr => ∃ (i : Nat) (dk : Array (Fin (m + 1))), s = .int .i64 (i : Int) ∧ 0 < i ∧ i ≤ n + 1 ∧ Hid (dk.size = n ∧ SoW w0 blk dk wr ∧ insOuter (ltC cf) 0 n i dk = insOuter (ltC cf) 0 n 1 d)) (fun s _ => (n + 1 - intOf s).toNat)
  case atStart => exact ⟨1, d, by go_num, by omega, by omega, HN.out, S0.out, rfl⟩
  case round =>
    obtain ⟨i, dk, rfl, h0, hi, HO⟩ := hrel
    by_cases hlt : i < n
    · have q : decide ((i : Int) < (n : Int)) = true := decide_eq_true (by omega)
      go_wp2_with fail
      go_loopw [9] (fun s wr2 => ∃ (j : Nat) (dj : Array (Fin (m + 1))), s = .int .i64 (j : Int) ∧ j ≤ i ∧ Hid (dj.size = n ∧ SoW w0 blk dj wr2 ∧ insInner (ltC cf) 0 j dj = insInner (ltC cf) 0 i dk)) (fun s _ => (intOf s).toNat)
      case atStart => exact ⟨i, dk, rfl, Nat.le_refl _, HO.out.1, HO.out.2.1, rfl⟩
      case round =>
        obtain ⟨j, dj, rfl, hji, HI⟩ := hrel
        have OUT : Hid ((j ≤ 0 ∨ (ltC cf) dj[j]! dj[j - 1]! = false) → insOuter (ltC cf) 0 n (i + 1) dj = insOuter (ltC cf) 0 n 1 d) := fun hs => by
          rw [← HO.out.2.2, out_go _ _ _ _ _ hlt, ← HI.out.2.2, inn_stop _ _ _ _ hs]
        by_cases hj : j = 0
        · subst hj
          have qj : decide ((0 : Int) < ((0 : Nat) : Int)) = false := by decide
          go_wp2_with fail
          refine wp_region_kept (by kernel_rfl) (by kernel_rfl) ?_
          repeat (go_big_quiet_step (fail))
          refine wpQuiet_nil ?_
          rintro _ ⟨u, rfl⟩
          have HS := Lib.hid (HI.out.2.1.kept u)
          go_wp2_with fail
          go_roundw
          case rel => exact ⟨i + 1, dj, by go_num, by omega, by omega, HI.out.1, HS.out, OUT.out (.inl (Nat.le_refl _))⟩
          case measure => simp [intOf]; omega
        · obtain ⟨jp, rfl⟩ : ∃ q, j = q + 1 := ⟨j - 1, by omega⟩
          have qj : decide ((0 : Int) < (jp : Int) + 1) = true := decide_eq_true (by omega)
          obtain ⟨x, hx⟩ : ∃ x, dj[jp + 1]! = x := ⟨_, rfl⟩
          obtain ⟨y, hy⟩ : ∃ x, dj[jp]! = x := ⟨_, rfl⟩
          have HXY := Lib.hid (And.intro hx hy)
          have HD := HI.out.1
          have c0 := fun u : Kept wr => (HI.out.2.1.kept u).cell (i := jp + 1) (by omega)
          have c1 := fun u : Kept wr => (HI.out.2.1.kept u).cell (i := jp) (by omega)
          rw [hx] at c0
          rw [hy] at c1
          have HK := HC.out.at HI.out.2.1 x y
          obtain ⟨c, hc⟩ : ∃ c, cf x y = c := ⟨_, rfl⟩
          rw [hc] at HK
          have HCC := Lib.hid hc
          clear hx hy hc HD
          have b0 : (jp : Int) + 1 < (n : Int) := by omega
          have b1 : (jp : Int) < (n : Int) := by omega
          have p0 : (0 : Int) ≤ (jp : Int) + 1 := by omega
          have e0 : ((jp : Int) + 1).toNat = jp + 1 := by omega
          have ew : IntKind.i64.wrap (jp : Int) = (jp : Int) := by rw [IntKind.wrap_i64]; omega
          by_cases hl : c < 0
          · have ql : decide (c < 0) = true := decide_eq_true hl
            go_wp2_with fail
            refine wp_region_kept (by kernel_rfl) (by kernel_rfl) ?_
            repeat (go_big_quiet_step (with_reducible exact HK _))
            refine wpQuiet_nil ?_
            rintro _ ⟨u, rfl⟩
            have HS := Lib.hid (HI.out.2.1.kept u)
            have HD := HI.out.1
            clear c0 c1 HK
            generalize u.W = w2 at HS ⊢
            have c0 := HS.out.cell (i := jp + 1) (by omega)
            have c1 := HS.out.cell (i := jp) (by omega)
            have c2 := (HS.out.set (jp + 1) y).cell (i := jp) (by rw [Array.size_setIfInBounds]; omega)
            have f0 := HS.out.frozen (jp + 1)
            have f1 := HS.out.frozen jp
            have HW : Hid (SoW w0 blk (swp dj (jp + 1) jp) ((w2.setCell ⟨blk, jp + 1, none⟩ (.int .i64 (y.val : Int))).setCell ⟨blk, jp, none⟩ (.int .i64 (x.val : Int))).drew) := by
              have := (HS.out.swap (jp + 1) jp).drew
              rwa [HXY.out.1, HXY.out.2] at this
            rw [HXY.out.1] at c0
            rw [HXY.out.2] at c1
            clear HD
            go_wp2_with fail
            go_big_region
            clear c0 c1 c2 f0 f1
            generalize ((w2.setCell ⟨blk, jp + 1, none⟩ (.int .i64 (y.val : Int))).setCell ⟨blk, jp, none⟩ (.int .i64 (x.val : Int))).drew = w3 at HW ⊢
            go_wp2_with fail
            go_roundw
            case rel =>
              refine ⟨jp, swp dj (jp + 1) jp, by go_num, by omega, by rw [size_swp]; exact HI.out.1, HW.out, ?_⟩
              rw [← HI.out.2.2, inn_go (ltC cf) 0 (jp + 1) dj (by omega) (by rw [HXY.out.1, Nat.add_sub_cancel, HXY.out.2]; unfold ltC; rw [HCC.out]; exact ql), Nat.add_sub_cancel]
            case measure => simp [intOf]
          · have ql : decide (c < 0) = false := decide_eq_false hl
            go_wp2_with fail
            refine wp_region_kept (by kernel_rfl) (by kernel_rfl) ?_
            repeat (go_big_quiet_step (with_reducible exact HK _))
            refine wpQuiet_nil ?_
            rintro _ ⟨u, rfl⟩
            have HS := Lib.hid (HI.out.2.1.kept u)
            go_wp2_with fail
            go_roundw
            case rel => exact ⟨i + 1, dj, by go_num, by omega, by omega, HI.out.1, HS.out, OUT.out (.inr (by rw [HXY.out.1, Nat.add_sub_cancel, HXY.out.2]; unfold ltC; rw [HCC.out]; exact ql))⟩
            case measure => simp [intOf]; omega
    · have q : decide ((i : Int) < (n : Int)) = false := decide_eq_false (by omega)
      go_wp2_with fail
      go_end0
      exact ⟨rfl, by unfold insertionSort; rw [← HO.out.2.2, out_stop _ _ _ _ _ hlt]; exact HO.out.2.1⟩
set_option maxRecDepth 100000 in
set_option maxHeartbeats 4000000 in
theorem pdq_any {m blk n : Nat} {l : Int} {g : FuncId} {cb : Array Value} {cf : Fin (m + 1) → Fin (m + 1) → Int} {d : Array (Fin (m + 1))} {w0 w : World} (hcf : ∀ (args : Array Value) (u : World), (callFunc g args).run Tryz.prog u = .ok (.enter g args) u)
    (hcmp : CmpK w0 blk g cb cf) (hn : d.size = n) (h12 : n ≤ 12) (S : SoW w0 blk d w) :
    Calls Tryz.prog 201 #[.slice (some ⟨blk, 0, none⟩) n n, .int .i64 0, .int .i64 (n : Int), .int .i64 l, .func (.func g) #[] cb] w fun e w' => e = .returned (.tuple #[]) ∧ SoW w0 blk (insertionSort (ltC cf) d 0 n) w' := by
  have K := ins_any (blk := blk) hcf hcmp hn h12 S
  have ew : IntKind.i64.wrap (n : Int) = (n : Int) := by rw [IntKind.wrap_i64]; omega
  have q : decide ((n : Int) ≤ 12) = true := decide_eq_true (by omega)
  clear hcf hcmp hn S
  go_enter Tryz.func201, Tryz.ntmps201
  go_wp2_with fail
  refine wp_loop_rounds 1 ?_
  rw [rounds_succ]
  go_wp2_with fail
  refine K.mono ?_
  rintro e w1 ⟨rfl, hS⟩
  go_wp2_with fail
  (try simp only [Exit.inBlock, Exit.then]); refine bodyPost_ret (results_none rfl _ _ _) rfl ?_
  exact ⟨rfl, hS⟩
set_option maxRecDepth 100000 in
set_option maxHeartbeats 4000000 in
theorem len64_few {n : Nat} (h12 : n ≤ 12) (w : World) : Calls Tryz.prog 211 #[.int .u64 (n : Int)] w fun e w' => (∃ l : Int, e = .returned (.int .i64 l)) ∧ w' = w := by
  obtain h | h | h | h | h | h | h | h | h | h | h | h | h : n = 0 ∨ n = 1 ∨ n = 2 ∨ n = 3 ∨ n = 4 ∨ n = 5 ∨ n = 6 ∨ n = 7 ∨ n = 8 ∨ n = 9 ∨ n = 10 ∨ n = 11 ∨ n = 12 := by omega
  all_goals
    subst h
    go_enter Tryz.func211, Tryz.ntmps211
    go_wp2_with fail
    go_ret
    exact ⟨⟨_, rfl⟩, rfl⟩
set_option maxRecDepth 100000 in
set_option maxHeartbeats 4000000 in
theorem len_few {n : Nat} (h12 : n ≤ 12) (w : World) : Calls Tryz.prog 202 #[.int .u64 (n : Int)] w fun e w' => (∃ l : Int, e = .returned (.int .i64 l)) ∧ w' = w := by
  have K := len64_few h12 w
  have hw : IntKind.u64.wrap (n : Int) = (n : Int) := by simp [IntKind.wrap, IntKind.bits, IntKind.signed]; omega
  clear h12
  go_enter Tryz.func202, Tryz.ntmps202
  go_wp2_with fail
  refine K.mono ?_
  rintro e w1 ⟨⟨l, rfl⟩, rfl⟩
  go_wp2_with fail
  go_ret
  exact ⟨⟨_, rfl⟩, rfl⟩
set_option maxRecDepth 100000 in
set_option maxHeartbeats 4000000 in
/-- slices.SortFunc at up to 12 numbers -/
theorem sort_few {m blk n : Nat} {g : FuncId} {cb : Array Value} {cf : Fin (m + 1) → Fin (m + 1) → Int} {d : Array (Fin (m + 1))} {w0 w : World} (hcf : ∀ (args : Array Value) (u : World), (callFunc g args).run Tryz.prog u = .ok (.enter g args) u)
    (hcmp : CmpK w0 blk g cb cf) (hn : d.size = n) (h12 : n ≤ 12) (S : SoW w0 blk d w) :
    Calls Tryz.prog 162 #[.slice (some ⟨blk, 0, none⟩) n n, .func (.func g) #[] cb] w fun e w' => e = .returned (.tuple #[]) ∧ SoW w0 blk (insertionSort (ltC cf) d 0 n) w' := by
  have K := len_few h12 w
  have hw : IntKind.u64.wrap (n : Int) = (n : Int) := by simp [IntKind.wrap, IntKind.bits, IntKind.signed]; omega
  have KS := fun l => pdq_any (l := l) hcf hcmp hn h12 S
  clear hcf hcmp hn S h12
  go_enter Tryz.func162, Tryz.ntmps162
  go_wp2_with fail
  refine K.mono ?_
  rintro e w1 ⟨⟨l, rfl⟩, rfl⟩
  go_wp2_with fail
  refine (KS _).mono ?_
  rintro e w2 ⟨rfl, hS⟩
  go_wp2_with fail
  go_end0
  exact ⟨rfl, hS⟩
/-- the sorted list: a rearrangement in which no later one is less -/
theorem sort_order {m n : Nat} {cf : Fin (m + 1) → Fin (m + 1) → Int} (hS : SWO (ltC cf)) {d : Array (Fin (m + 1))} (hn : d.size = n) :
    (insertionSort (ltC cf) d 0 n).toList.Perm d.toList ∧ (insertionSort (ltC cf) d 0 n).size = n ∧ ∀ i j, i < j → j < n → ltC cf (insertionSort (ltC cf) d 0 n)[j]! (insertionSort (ltC cf) d 0 n)[i]! = false := by
  have h := insertionSort_holds (lt := ltC cf) hS d 0 n (Nat.zero_le _) (by omega)
  obtain ⟨⟨h1, _, h3⟩, h4⟩ := h
  refine ⟨?_, by omega, fun i j hij hj => h4 i j (Nat.zero_le _) hij hj⟩
  have e1 : (insertionSort (ltC cf) d 0 n).extract 0 n = insertionSort (ltC cf) d 0 n := by rw [Array.extract_eq_self_of_le (by omega)]
  have e2 : d.extract 0 n = d := by rw [Array.extract_eq_self_of_le (by omega)]
  rwa [e1, e2] at h3
end Go.Proofs.YtpipkeplhkccoaaGreatDoor
namespace Go.Proofs.YtpipkeplhkccoaaGreatDoor
open Go.RowKit Go.Shelf Go.Sort SP

set_option maxRecDepth 100000 in
set_option maxHeartbeats 4000000 in
theorem isnan_any (x : Int) (w : World) : Calls Tryz.prog 203 #[.int .i64 x] w fun e w' => e = .returned (.bool false) ∧ w' = w := by
  go_enter Tryz.func203, Tryz.ntmps203
  go_wp2_with fail
  go_ret
  exact ⟨by simp, rfl⟩
set_option maxRecDepth 100000 in
set_option maxHeartbeats 4000000 in
theorem cmpint_any (x y : Int) (w : World) : Calls Tryz.prog 165 #[.int .i64 x, .int .i64 y] w fun e w' => e = .returned (.int .i64 (cmpI x y)) ∧ w' = w := by
  have K1 := isnan_any x w
  have K2 := isnan_any y w
  have e : cmpI x y = if x < y then -1 else if x = y then 0 else 1 := rfl
  rcases Int.lt_trichotomy x y with h | h | h
  · rw [e, if_pos h]
    have q : decide (x < y) = true := decide_eq_true h
    clear e h
    go_enter Tryz.func165, Tryz.ntmps165
    go_wp2_with fail
    refine K1.mono ?_
    rintro e w1 ⟨rfl, rfl⟩
    go_wp2_with fail
    refine K2.mono ?_
    rintro e w1 ⟨rfl, rfl⟩
    go_wp2_with fail
    go_ret
    exact ⟨rfl, rfl⟩
  · subst h
    rw [e, if_neg (by omega), if_pos rfl]
    have q : decide (x < x) = false := decide_eq_false (by omega)
    clear e
    go_enter Tryz.func165, Tryz.ntmps165
    go_wp2_with fail
    refine K1.mono ?_
    rintro e w1 ⟨rfl, rfl⟩
    go_wp2_with fail
    refine K2.mono ?_
    rintro e w1 ⟨rfl, rfl⟩
    go_wp2_with fail
    go_ret
    exact ⟨rfl, rfl⟩
  · rw [e, if_neg (by omega), if_neg (by omega)]
    have q : decide (x < y) = false := decide_eq_false (by omega)
    have q2 : decide (y < x) = true := decide_eq_true h
    clear e h
    go_enter Tryz.func165, Tryz.ntmps165
    go_wp2_with fail
    refine K1.mono ?_
    rintro e w1 ⟨rfl, rfl⟩
    go_wp2_with fail
    refine K2.mono ?_
    rintro e w1 ⟨rfl, rfl⟩
    go_wp2_with fail
    go_ret
    exact ⟨rfl, rfl⟩
set_option maxRecDepth 100000 in
set_option maxHeartbeats 4000000 in
theorem cmpor_two (x y : Int) (b : Nat) (w : World) (h0 : w.cell? ⟨b, 0, none⟩ = some (.int .i64 x)) (h1 : w.cell? ⟨b, 1, none⟩ = some (.int .i64 y)) :
    Calls Tryz.prog 164 #[.slice (some ⟨b, 0, none⟩) 2 2] w fun e w' => e = .returned (.int .i64 (if x = 0 then y else x)) ∧ w' = w := by
  by_cases hx : x = 0
  · subst hx
    rw [if_pos rfl]
    by_cases hy : y = 0
    · subst hy
      go_enter Tryz.func164, Tryz.ntmps164
      go_wp2_with fail
      refine wp_loop_rounds 3 ?_
      rw [rounds_succ]
      go_wp2_with fail
      rw [rounds_succ]
      go_wp2_with fail
      rw [rounds_succ]
      go_wp2_with fail
      go_ret
      exact ⟨rfl, rfl⟩
    · have q : (y != 0) = true := by simpa using hy
      clear hy
      go_enter Tryz.func164, Tryz.ntmps164
      go_wp2_with fail
      refine wp_loop_rounds 3 ?_
      rw [rounds_succ]
      go_wp2_with fail
      rw [rounds_succ]
      go_wp2_with fail
      go_ret
      exact ⟨rfl, rfl⟩
  · have q : (x != 0) = true := by simpa using hx
    rw [if_neg hx]
    clear hx
    go_enter Tryz.func164, Tryz.ntmps164
    go_wp2_with fail
    refine wp_loop_rounds 3 ?_
    rw [rounds_succ]
    go_wp2_with fail
    go_ret
    exact ⟨rfl, rfl⟩
end Go.Proofs.YtpipkeplhkccoaaGreatDoor
namespace Go.Proofs.YtpipkeplhkccoaaGreatDoor
open Go.RowKit Go.Shelf Go.Sort SP Dec

def cfO {m : Nat} (r : List Int) (x y : Fin (m + 1)) : Int := if cmpI (at0 r y.val) (at0 r x.val) = 0 then cmpI (x.val : Int) (y.val : Int) else cmpI (at0 r y.val) (at0 r x.val)
theorem ltC_beats {m : Nat} (r : List Int) (x y : Fin (m + 1)) : ltC (cfO r) x y = beats r x.val y.val := by
  unfold ltC
  rw [Bool.eq_iff_iff, decide_eq_true_eq, beats_iff]
  unfold cfO cmpI
  repeat' split
  all_goals omega
theorem cfO_swo {m : Nat} (r : List Int) : SWO (ltC (cfO (m := m) r)) where
  irrefl := fun x => by rw [ltC_beats]; exact beats_self _ _
  trans := fun x y z h1 h2 => by rw [ltC_beats] at *; exact beats_trans h1 h2
  ntrans := fun x y z h1 h2 => by
    rw [ltC_beats] at *
    rw [← Bool.not_eq_true, beats_iff] at *
    omega
set_option maxRecDepth 100000 in
set_option maxHeartbeats 4000000 in
theorem clo4_any {m B RB : Nat} {rs : List ByteArray} (hrs : rs.length = m + 1) (hz : ∀ s ∈ rs, s.size ≤ 1000000) (x y : Fin (m + 1)) (w : World) (hg : Gl w) (hbox : w.cell? ⟨B, 0, none⟩ = some (.slice (some ⟨RB, 0, none⟩) (m + 1) (m + 1))) (hrow : Row w (some ⟨RB, 0, none⟩) (rs.map sv)) :
    Calls Tryz.prog 163 #[.int .i64 (x.val : Int), .int .i64 (y.val : Int), .pointer (some ⟨B, 0, none⟩)] w fun e w' => e = .returned (.int .i64 (cfO (iv rs) x y)) ∧ Below w.heap.size w w' := by
  have hs := St.refl hg
  obtain ⟨xi, hx⟩ := x
  obtain ⟨yi, hy⟩ := y
  obtain ⟨sx, hsx⟩ : ∃ s, rs[xi]? = some s := ⟨rs[xi]'(by omega), by simp⟩
  obtain ⟨sy, hsy⟩ : ∃ s, rs[yi]? = some s := ⟨rs[yi]'(by omega), by simp⟩
  obtain ⟨b1, o1, e1, l1, c1⟩ := hrow xi (sv sx) (by rw [List.getElem?_map, hsx]; rfl)
  obtain ⟨b2, o2, e2, l2, c2⟩ := hrow yi (sv sy) (by rw [List.getElem?_map, hsy]; rfl)
  injection e1 with e1; injection e1 with e1 e1'
  injection e2 with e2; injection e2 with e2 e2'
  subst e1 e1' e2 e2'
  unfold sv at c1 c2
  rw [Nat.zero_add] at c1 c2
  have KC := CmpR (Vs.arg (s := sy) (hz _ (List.mem_of_getElem? hsy))) (Vs.arg (s := sx) (hz _ (List.mem_of_getElem? hsx)))
  have HE : Hid (cfO (iv rs) (⟨xi, hx⟩ : Fin (m + 1)) ⟨yi, hy⟩ = if cmpI (valS sy) (valS sx) = 0 then cmpI (xi : Int) (yi : Int) else cmpI (valS sy) (valS sx)) := by
    show _ = _
    unfold cfO
    rw [iv_at hsx, iv_at hsy]
  rw [HE.out]
  have KI : ∀ u : Kept w, Calls Tryz.prog 165 #[.int .i64 (xi : Int), .int .i64 (yi : Int)] u.W fun e w'' => e = .returned (.int .i64 (cmpI (xi : Int) (yi : Int))) ∧ ∃ u' : Kept w, w'' = u'.W :=
    fun u => (cmpint_any _ _ u.W).mono fun _ w'' ⟨he, hw⟩ => ⟨he, u, hw⟩
  generalize cmpI (valS sy) (valS sx) = ca at *
  generalize cmpI (xi : Int) (yi : Int) = cb at *
  have k0 := Kept.cell_of hbox
  have k1 := Kept.cell_of c1
  have k2 := Kept.cell_of c2
  have q1 : (xi : Int) < (m : Int) + 1 := by omega
  have q2 : (yi : Int) < (m : Int) + 1 := by omega
  have q3 : xi < m + 1 := hx
  have q4 : yi < m + 1 := hy
  show Calls Tryz.prog 163 #[.int .i64 (xi : Int), .int .i64 (yi : Int), .pointer (some ⟨B, 0, none⟩)] w _
  have KO := fun (v : World) => cmpor_two ca cb v.heap.size (v.alloc (.cells #[.int .i64 ca, .int .i64 cb] 3)) ((Bx.new v _ _).cell (i := 0) rfl) ((Bx.new v _ _).cell (i := 1) rfl)
  obtain ⟨r, hr⟩ : ∃ r, (if ca = 0 then cb else ca) = r := ⟨_, rfl⟩
  rw [hr] at KO ⊢
  clear hr
  clear hg hbox hrow hrs hz c1 c2 hsx hsy HE hx hy
  go_enter Tryz.func163, Tryz.ntmps163
  go_wp2_with fail
  refine wp_region_kept_tail 12 (by kernel_rfl) (by kernel_rfl) ?_
  simp only [List.take_succ_cons, List.take_zero, List.drop_succ_cons, List.drop_zero]
  repeat (go_big_quiet_step (first | (with_reducible exact KC.kept hs) | (with_reducible exact KI _)))
  refine wpQuiet_nil ?_
  rintro _ ⟨u, rfl⟩
  have hs1 := hs.kept u
  go_wp2_with fail
  refine (KO u.W).mono ?_
  rintro e w1 ⟨rfl, rfl⟩
  go_wp2_with fail
  go_ret
  exact ⟨rfl, (hs1.alloc _).2⟩
end Go.Proofs.YtpipkeplhkccoaaGreatDoor
