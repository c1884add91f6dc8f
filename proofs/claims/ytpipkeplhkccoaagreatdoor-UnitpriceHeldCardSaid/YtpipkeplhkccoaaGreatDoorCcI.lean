/- slices.Grow of nil and slices.Concat of numbers. Condition: short rows. -/
import Derived.Test.YtpipkeplhkccoaaGreatDoorEqI
import Derived.Test.YtpipkeplhkccoaaGreatDoorWc
import Derived.Lib.AppendZerosOnto
namespace Go.Proofs.YtpipkeplhkccoaaGreatDoor
open Go.RowKit Go.Shelf Dec QQ

def bcells (s : ByteArray) : List Value := [.string s]
theorem bcells_len (s : ByteArray) : (bcells s).length = 1 := rfl
theorem bcells_one (s : ByteArray) : ∀ u ∈ bcells s, u.oneCell' = true := by
  intro u hu
  simp [bcells] at hu
  subst hu
  rfl
theorem flat_b (l : List ByteArray) : flatG bcells l = l.map sv := by
  unfold flatG
  induction l with
  | nil => rfl
  | cons a l ih => rw [List.flatMap_cons, ih]; rfl
theorem row_readsI {w : World} {A : Option Addr} {vs : List Value} {m n : Nat} (h : Row w A vs) (hl : vs.length = n * m) (h0 : 0 < m) : Reads w w.heap.size m A n vs := by
  refine ⟨hl, fun hn => ?_⟩
  have hp : 0 < vs.length := by rw [hl]; exact Nat.mul_pos hn h0
  obtain ⟨b, o, hA, hB, _⟩ := h 0 _ (List.getElem?_eq_getElem hp)
  refine ⟨_, hA, hB, fun j u hu => ?_⟩
  obtain ⟨b', o', hA', _, hc⟩ := h j u hu
  rw [hA] at hA'
  injection hA' with e
  injection e with e1 e2
  subst e1 e2
  rw [show (⟨b, o, none⟩ : Addr).add j = ⟨b, o + j, none⟩ by unfold Addr.add; by_cases h : j = 0 <;> simp [h]]
  exact hc
theorem flat_oneI {α : Type} {cs : α → List Value} (h : ∀ a, ∀ u ∈ cs a, u.oneCell' = true) (l : List α) : ∀ u ∈ flatG cs l, u.oneCell' = true := by
  intro u hu
  obtain ⟨a, _, hu⟩ := List.mem_flatMap.1 hu
  exact h a u hu
set_option maxRecDepth 100000 in
set_option maxHeartbeats 4000000 in
theorem growI {n : Nat} (hn : n ≤ 1000) (w : World) :
    Calls Tryz.prog 103 #[.slice none 0 0, .int .i64 n] w fun e w' => ∃ v, e = .returned v ∧ w'.ownsRow w.heap.size 22 1 v 0 [] ∧ Below w.heap.size w w' := by
  by_cases h0 : n = 0
  · subst h0
    go_enter Tryz.func103, Tryz.ntmps103
    go_wp2_with fail
    go_ret
    exact ⟨_, rfl, World.ownsRow_nil _ _ _ _, Below.refl _ _⟩
  · obtain ⟨i0, hi, hz0, hz1, hz2⟩ := info_parts infoI4
    have h1 : decide ((n : Int) < 0) = false := decide_eq_false (by omega)
    have h2 : decide ((0 : Int) < (n : Int)) = true := decide_eq_true (by omega)
    have hrz : ∀ ty, (Builtin.append_ #[25, 3] ty #[.slice none 0 0, .int .i64 (n : Int)]).run Tryz.prog w = .ok (.slice (some ⟨w.heap.size, 0, none⟩) n (grownCap w n 0 22)) (w.drew.alloc (.cells (#[] ++ Builtin.zeroCells (Value.string ⟨#[]⟩).cells n ++ Builtin.zeroCells (Value.string ⟨#[]⟩).cells (grownCap w n 0 22 - n)) 22)) := fun ty => by
      have h := Lib.run_append_grow_zeros w 25 3 ty 22 i0 (Value.string ⟨#[]⟩) .i64 .i64 Tryz.underlying25 Tryz.underlying3 hi hz0 none 0 0 [] (run_firstCells_none _ _ _ _ _) n (by omega) (by omega) (by omega) (by omega) (by rw [hz2]; omega) (growslice_fits (by omega) (by rw [hz2]; omega))
      rw [Nat.zero_add] at h
      exact h
    have hge := grownCap_ge w n 0 22
    have hle := grownCap_le_maxLen w n 0 22 (by unfold maxLen; omega)
    have hle2 : grownCap w n 0 22 ≤ 9223372036854775807 := by unfold maxLen at hle; omega
    have hsz : (#[] ++ Builtin.zeroCells (Value.string ⟨#[]⟩).cells n ++ Builtin.zeroCells (Value.string ⟨#[]⟩).cells (grownCap w n 0 22 - n) : Array Value).size = grownCap w n 0 22 * 1 := by
      rw [Array.size_append, Array.size_append, size_zeroCells, size_zeroCells]
      show 0 + n * 1 + (grownCap w n 0 22 - n) * 1 = _
      omega
    have HD : Hid (World.ownsRow (w.drew.alloc (.cells (#[] ++ Builtin.zeroCells (Value.string ⟨#[]⟩).cells n ++ Builtin.zeroCells (Value.string ⟨#[]⟩).cells (grownCap w n 0 22 - n)) 22)) w.heap.size 22 1 (.slice (some ⟨w.heap.size, 0, none⟩) 0 (grownCap w n 0 22)) 0 [] ∧ Below w.heap.size w (w.drew.alloc (.cells (#[] ++ Builtin.zeroCells (Value.string ⟨#[]⟩).cells n ++ Builtin.zeroCells (Value.string ⟨#[]⟩).cells (grownCap w n 0 22 - n)) 22))) :=
      ⟨World.ownsRow_made w.drew _ _ (Nat.le_refl _) hle hsz, (Below.refl _ _).drew.alloc (Nat.le_refl _) _⟩
    have hcz : ¬ grownCap w n 0 22 = 0 := by omega
    generalize w.drew.alloc (.cells (#[] ++ Builtin.zeroCells (Value.string ⟨#[]⟩).cells n ++ Builtin.zeroCells (Value.string ⟨#[]⟩).cells (grownCap w n 0 22 - n)) 22) = W at *
    generalize grownCap w n 0 22 = G at *
    clear hsz hle
    go_enter Tryz.func103, Tryz.ntmps103
    go_wp2_with (at_builtin; refine Lib.wpList_append_run _ rfl _ _ _ _ rfl _ _ rfl rfl _ _ (hrz _) ?_)
    all_goals (go_ret; exact ⟨_, rfl, HD.out.1, HD.out.2⟩)
set_option maxRecDepth 100000 in
set_option maxHeartbeats 4000000 in
theorem concatI {xs ys : List ByteArray} {A A' : Option Addr} {p q c c' bb : Nat} (hx : xs.length = p) (hy : ys.length = q) (hp : p ≤ 400) (hq : q ≤ 400) (w : World) (hg : Gl w)
    (hb : Bx w bb #[.slice A p c, .slice A' q c']) (h1 : Row w A (flatG bcells xs)) (h2 : Row w A' (flatG bcells ys)) :
    Calls Tryz.prog 43 #[.slice (some ⟨bb, 0, none⟩) 2 2] w fun e w' => ∃ v, e = .returned v ∧ OutG bcells 22 1 w.heap.size w' v (p + q) (xs ++ ys) ∧ Below w.heap.size w w' := by
  have hs := St.refl hg
  have HX := Lib.hid hx
  have HY := Lib.hid hy
  have H1 := Lib.hid h1
  have H2 := Lib.hid h2
  have HB := Lib.hid hb
  have lx : (flatG bcells xs).length = p * 1 := by rw [flatG_len bcells_len, hx, Nat.mul_comm]
  have ly : (flatG bcells ys).length = q * 1 := by rw [flatG_len bcells_len, hy, Nat.mul_comm]
  have HLX := Lib.hid lx
  have HLY := Lib.hid ly
  have KG := Lib.hid (fun w => growI (n := p + q) (by omega) w)
  have ec : ((p + q : Nat) : Int) = (p : Int) + (q : Int) := by omega
  rw [ec] at KG
  clear hx hy h1 h2 hb hg lx ly ec
  go_enter Tryz.func43, Tryz.ntmps43
  go_wp2_with fail
  go_loopw [11, 3] (fun s t wr => St w wr ∧ ((s = .int .i64 0 ∧ t = .int .i64 0) ∨ (s = .int .i64 1 ∧ t = .int .i64 (p : Int)) ∨ (s = .int .i64 2 ∧ t = .int .i64 ((p : Int) + (q : Int))))) (fun s _ _ => (2 - intOf s).toNat)
  case atStart => exact ⟨hs, .inl ⟨rfl, rfl⟩⟩
  case round =>
    clear hs
    obtain ⟨hs, ⟨rfl, rfl⟩ | ⟨rfl, rfl⟩ | ⟨rfl, rfl⟩⟩ := hrel
    · have x0 := (HB.out.on hs.2).cell (i := 0) (v := .slice A p c) rfl
      have qq : decide ((p : Int) < 0) = false := decide_eq_false (by omega)
      go_wp2_with fail
      go_roundw
      case rel => exact ⟨hs, .inr (.inl ⟨rfl, by go_num⟩)⟩
      case measure => simp [intOf]
    · have x1 := (HB.out.on hs.2).cell (i := 1) (v := .slice A' q c') rfl
      have qq : decide ((p : Int) + (q : Int) < 0) = false := decide_eq_false (by omega)
      go_wp2_with fail
      go_roundw
      case rel => exact ⟨hs, .inr (.inr ⟨rfl, by go_num⟩)⟩
      case measure => simp [intOf]
    · go_wp2_with fail
      refine (KG.out _).mono ?_
      rintro e w1 ⟨v1, rfl, ho1, hb1⟩
      have HSZ : Hid (w.heap.size ≤ wr.heap.size) := hs.2.size
      replace hs := hs.on hb1
      have HO1 := Lib.hid ho1
      clear ho1 hb1
      generalize wr.heap.size = B1 at *
      obtain ⟨i0, hi, hz0, hz1, hz2⟩ := info_parts infoI4
      have Hi := Lib.hid hi
      have Hz0 := Lib.hid hz0
      have Hz1 := Lib.hid hz1
      have Hz2 := Lib.hid hz2
      clear hi hz0 hz1 hz2
      go_wp2_with fail
      go_loopw [27, 6] (fun s v wr => St w wr ∧ ((s = .int .i64 0 ∧ Hid (World.ownsRow wr w.heap.size 22 1 v 0 [])) ∨ (s = .int .i64 1 ∧ Hid (World.ownsRow wr w.heap.size 22 1 v p (flatG bcells xs))) ∨ (s = .int .i64 2 ∧ Hid (World.ownsRow wr w.heap.size 22 1 v (p + q) (flatG bcells (xs ++ ys)))))) (fun s _ _ => (2 - intOf s).toNat)
      case atStart => exact ⟨hs, .inl ⟨rfl, own_low HO1.out HSZ.out⟩⟩
      case round =>
        clear hs HO1 HSZ
        obtain ⟨hs, ⟨rfl, HO⟩ | ⟨rfl, HO⟩ | ⟨rfl, HO⟩⟩ := hrel
        · have x0 := (HB.out.on hs.2).cell (i := 0) (v := .slice A p c) rfl
          have hr := H1.out.on hs.2
          have HR := Lib.hid (row_readsI hr HLX.out (by decide))
          have hsz := hs.2.size
          clear hr
          go_wp2_with (at_builtin; refine wpList_append_any _ rfl (.tmp 31) (.tmp 32) 25 rfl w.heap.size 22 i0 (Value.string ⟨#[]⟩) 1 16 (by kernel_rfl) Hi.out Hz0.out Hz1.out Hz2.out rfl (by omega) _ 0 [] rfl HO.out _ A p c (flatG bcells xs) rfl HR.out (flat_oneI bcells_one xs) (by unfold maxLen; omega) (by omega) hsz ?_; intro v7 w7 hown7 hg7 _; have HO7 := Lib.hid hown7; have HG7 := Lib.hid hg7; clear hown7 hg7)
          go_roundw
          case rel =>
            refine ⟨⟨hs.1, hs.2.grown HG7.out hsz (own_gen HO.out)⟩, .inr (.inl ⟨rfl, ?_⟩)⟩
            have := HO7.out
            rwa [Nat.zero_add, List.nil_append] at this
          case measure => simp [intOf]
        · have x1 := (HB.out.on hs.2).cell (i := 1) (v := .slice A' q c') rfl
          have hr := H2.out.on hs.2
          have HR := Lib.hid (row_readsI hr HLY.out (by decide))
          have hsz := hs.2.size
          clear hr
          go_wp2_with (at_builtin; refine wpList_append_any _ rfl (.tmp 31) (.tmp 32) 25 rfl w.heap.size 22 i0 (Value.string ⟨#[]⟩) 1 16 (by kernel_rfl) Hi.out Hz0.out Hz1.out Hz2.out rfl (by omega) _ p (flatG bcells xs) rfl HO.out _ A' q c' (flatG bcells ys) rfl HR.out (flat_oneI bcells_one ys) (by unfold maxLen; omega) (by omega) hsz ?_; intro v7 w7 hown7 hg7 _; have HO7 := Lib.hid hown7; have HG7 := Lib.hid hg7; clear hown7 hg7)
          go_roundw
          case rel =>
            refine ⟨⟨hs.1, hs.2.grown HG7.out hsz (own_gen HO.out)⟩, .inr (.inr ⟨rfl, ?_⟩)⟩
            have := HO7.out
            have e : flatG bcells (xs ++ ys) = flatG bcells xs ++ flatG bcells ys := by unfold flatG; rw [List.flatMap_append]
            show World.ownsRow _ _ _ _ _ _ _
            rw [e]
            exact this
          case measure => simp [intOf]
        · go_wp2_with fail
          go_ret
          exact ⟨_, rfl, ⟨by rw [List.length_append, HX.out, HY.out], HO.out⟩, hs.2⟩
end Go.Proofs.YtpipkeplhkccoaaGreatDoor
