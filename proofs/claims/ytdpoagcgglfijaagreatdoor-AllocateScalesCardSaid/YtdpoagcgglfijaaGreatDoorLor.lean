/- Walk of AllocateOrder. Condition: sizes that strings and slices can have. -/
import Derived.Test.YtdpoagcgglfijaaGreatDoorAw4
import Derived.Test.YtdpoagcgglfijaaGreatDoorLw4
import Derived.Test.YtdpoagcgglfijaaGreatDoorWl
namespace Go.Proofs.YtdpoagcgglfijaaGreatDoor
open Go.RowKit Go.Shelf SP Dec QQ

theorem spl_fit {T : Int} {ws : List Int} {k0 : Nat} (hT : Fit k0 T) (hw : ∀ x ∈ ws, Fit k0 x) : ∀ x ∈ splL T ws, Fit (k0 + k0 + 2) x := by
  intro x hx
  unfold splL at hx
  split at hx
  · obtain ⟨y, hy, rfl⟩ := List.mem_map.1 hx
    have := pos_fit (show Fit k0 (-T) by unfold Fit at *; rwa [Int.natAbs_neg]) hw y hy
    unfold Fit at *
    rwa [Int.natAbs_neg]
  · exact pos_fit hT hw x hx
theorem fit_absI {k : Nat} {z : Int} (h : Fit k z) : Fit k (absI z) := by unfold Fit absI at *; split <;> omega
set_option maxRecDepth 100000 in
set_option maxHeartbeats 4000000 in
theorem order04_any {A : Option Addr} {n c : Nat} {t : ByteArray} {ws : List ByteArray} (z0 : t.size ≤ 9223372036854775807) (hn : ws.length = n) (hm : n ≤ 9223372036854775807) (hbig : ∀ s ∈ ws, s.size ≤ 9223372036854775807) :
    ∀ w, Gl w → Row w A (ws.map sv) → Calls Tryz.prog 3 #[.string t, .slice A n c] w fun e w' => e = .returned (.bool true) ∧ Below w.heap.size w w' := by
  intro w hg hr
  have hs := St.refl hg
  have HR := Lib.hid hr
  have KA := awake04
  have HR1 : Hid (Row (w.alloc (.cells #[.string t] 22)) (some ⟨w.heap.size, 0, none⟩) ([t].map sv)) := Row.of (Bx.new w #[.string t] 22)
  have KG1 := great4_any (A := some ⟨w.heap.size, 0, none⟩) (n := 1) (c := 1) (l := [t]) rfl (by decide) (by intro s hs; simp at hs; rw [hs]; exact z0)
  have KG2 := great4_any (A := A) (n := n) (c := c) (l := ws) hn hm hbig
  cases hG1 : great4 [t] with
  | true =>
    rw [hG1] at KG1
    clear hG1 KG2 hr hn hbig
    go_enter Tryz.func3, Tryz.ntmps3
    go_wp2_with fail
    refine KG1.step (hs.alloc _) HR1.out ?_
    intro w1 hs hb
    go_wp2_with fail
    refine KA.step hs ?_
    intro w2 hs hb
    go_wp2_with fail
    go_ret
    exact ⟨rfl, hs.2⟩
  | false =>
  rw [hG1] at KG1
  have y0 : t.size ≤ 30 := great4_one hG1 (by simp) t (by simp)
  cases hG2 : great4 ws with
  | true =>
    rw [hG2] at KG2
    clear hG1 hG2 hr hn hbig y0
    go_enter Tryz.func3, Tryz.ntmps3
    go_wp2_with fail
    refine KG1.step (hs.alloc _) HR1.out ?_
    intro w1 hs hb
    go_wp2_with fail
    refine KG2.step hs (HR.out.on hs.2) ?_
    intro w2 hs hb
    go_wp2_with fail
    refine KA.step hs ?_
    intro w3 hs hb
    go_wp2_with fail
    go_ret
    exact ⟨rfl, hs.2⟩
  | false =>
  rw [hG2] at KG2
  obtain ⟨h12, h1005, hz⟩ := great4_few hG2
  rw [hn] at h12 h1005
  clear hG1 hG2 hbig hr
  have KR := Lib.hid (fun (u : World) (hg : Gl u) (hr : Row u A (ws.map sv)) => split4_any (A := A) (c := c) (n := n) (k0 := 30) (t := t) (ws := ws) hn h12 (by omega) (by decide) y0 hz u hg hr)
  by_cases he : alE t ws = 0
  · have ho := alE_zero.1 he
    have h0 : 0 < n := by have := ho.len0; omega
    have hn12 : n ≤ 12 := by have := ho.len; omega
    have eR : alS t ws = splL (valS t) (iv ws) := if_pos he
    have hil : (iv ws).length = n := by rw [iv_len, hn]
    rw [he, eR, splL_len, hil] at KR
    have HORD : Hid (∀ i k, i < n → k < n → _) := fun i k hi hk => order4 (T := valS t) ho.ok (i := i) (k := k) (by rw [hil]; exact hi) (by rw [hil]; exact hk)
    have HFX : Hid (∀ i, i < n → Fit 62 (at0 (splL (valS t) (iv ws)) i)) := fun i hi => spl_fit (Fit.val (k := 30) y0) (iv_fit hz) _ (List.mem_of_getElem? (at0_lt (by rw [splL_len, hil]; exact hi)))
    have HIV : Hid (∀ i s, ws[i]? = some s → at0 (iv ws) i = valS s) := fun i s h => iv_at h
    have HLL : Hid ((splL (valS t) (iv ws)).length = n) := by show _ = _; rw [splL_len, hil]
    generalize splL (valS t) (iv ws) = L at *
    generalize iv ws = W at *
    have HN := Lib.hid hn
    have HZ := Lib.hid hz
    obtain ⟨b0, o0, hA, hlt0, hcell0⟩ := HR.out 0 (sv (ws[0]'(by omega))) (by rw [List.getElem?_map, List.getElem?_eq_getElem (by omega)]; rfl)
    subst hA
    clear hlt0 hcell0
    clear he eR ho hil hz hn h12 h1005 y0 z0
    go_enter Tryz.func3, Tryz.ntmps3
    go_wp2_with fail
    refine KG1.step (hs.alloc _) HR1.out ?_
    intro w1 hs hb
    go_wp2_with fail
    refine KG2.step hs (HR.out.on hs.2) ?_
    intro w2 hs hb
    go_wp2_with fail
    refine (KR.out w2 hs.gl (HR.out.on hs.2)).mono ?_
    rintro e w3 ⟨v, rfl, hov, hb3⟩
    obtain ⟨g, c1, rfl, hc1, hc2', hrow⟩ := hov.some4 h0
    rw [flat_sv] at hrow
    replace hs := hs.on hb3
    have HL0 := Lib.hid hrow
    clear hov hrow hc2'
    go_wp2_with fail
    go_loopw [41] (fun s wr => ∃ i : Nat, i ≤ n ∧ s = .int .i64 (i : Int) ∧ St w wr ∧ Hid (Row wr (some ⟨g, 0, none⟩) ((L.map canS).map sv))) (fun s _ => (n - intOf s).toNat)
    case atStart => exact ⟨0, by omega, rfl, hs, HL0.out⟩
    case round =>
      clear hs HL0
      obtain ⟨i, hi, rfl, hs, HLi⟩ := hrel
      by_cases hin : i = n
      · subst hin
        have q : decide ((i : Int) < (i : Int)) = false := decide_eq_false (by omega)
        go_wp2_with fail
        refine KA.step hs ?_
        intro w4 hs hb
        go_wp2_with fail
        go_ret
        exact ⟨rfl, hs.2⟩
      · have hil : i < n := by omega
        have q : decide ((i : Int) < (n : Int)) = true := decide_eq_true (by omega)
        have qn : decide (i < n) = true := decide_eq_true hil
        clear hin
        go_wp2_with fail
        go_loopw [46] (fun s wr => ∃ k : Nat, k ≤ n ∧ s = .int .i64 (k : Int) ∧ St w wr ∧ Hid (Row wr (some ⟨g, 0, none⟩) ((L.map canS).map sv))) (fun s _ => (n - intOf s).toNat)
        case atStart => exact ⟨0, by omega, rfl, hs, HLi.out⟩
        case round =>
          clear hs HLi
          obtain ⟨k, hk, rfl, hs, HL⟩ := hrel
          by_cases hkn : k = n
          · subst hkn
            have q : decide ((k : Int) < (k : Int)) = false := decide_eq_false (by omega)
            go_wp2_with fail
            go_roundw
            case rel => exact ⟨i + 1, by omega, by go_num, hs, HL.out⟩
            case measure => simp [intOf]; omega
          · have hkl : k < n := by omega
            have q : decide ((k : Int) < (n : Int)) = true := decide_eq_true (by omega)
            have qn : decide (k < n) = true := decide_eq_true hkl
            obtain ⟨si, hsi⟩ : ∃ s, ws[i]? = some s := ⟨ws[i]'(by rw [HN.out]; exact hil), by simp⟩
            obtain ⟨sk, hsk⟩ : ∃ s, ws[k]? = some s := ⟨ws[k]'(by rw [HN.out]; exact hkl), by simp⟩
            obtain ⟨b1, o1, e1, l1, cwi⟩ := (HR.out.on hs.2) i (sv si) (by rw [List.getElem?_map, hsi]; rfl)
            injection e1 with e1; injection e1 with e1 e1'; subst e1 e1'
            obtain ⟨b2, o2, e2, l2, cwk⟩ := (HR.out.on hs.2) k (sv sk) (by rw [List.getElem?_map, hsk]; rfl)
            injection e2 with e2; injection e2 with e2 e2'; subst e2 e2'
            have gl : ∀ j, j < n → L[j]? = some (at0 L j) := fun j hj => at0_lt (by rw [HLL.out]; exact hj)
            obtain ⟨b3, o3, e3, l3, cli⟩ := HL.out i (sv (canS (at0 L i))) (by rw [List.getElem?_map, List.getElem?_map, gl i hil]; rfl)
            injection e3 with e3; injection e3 with e3 e3'; subst e3 e3'
            obtain ⟨b4, o4, e4, l4, clk⟩ := HL.out k (sv (canS (at0 L k))) (by rw [List.getElem?_map, List.getElem?_map, gl k hkl]; rfl)
            injection e4 with e4; injection e4 with e4 e4'; subst e4 e4'
            unfold sv at cwi cwk cli clk
            rw [Nat.zero_add] at cli clk
            have HC := Lib.hid (And.intro cli clk)
            have kwi := Kept.cell_of cwi
            have kwk := Kept.cell_of cwk
            have kli := Kept.cell_of cli
            have klk := Kept.cell_of clk
            have zi := HZ.out si (List.mem_of_getElem? hsi)
            have zk := HZ.out sk (List.mem_of_getElem? hsk)
            have fi := HFX.out i hil
            have fk := HFX.out k hkl
            have KC1 := CmpR (Vs.arg (s := si) (by omega)) (Vs.arg (s := sk) (by omega))
            have KSi := size4_can fi (by omega)
            have KSk := size4_can fk (by omega)
            have KC2 := CmpR (Vs.can (fit_absI fi) (by omega)) (Vs.can (fit_absI fk) (by omega))
            have KSub := SubR (Vs.can (fit_absI fi) (by omega)) (Vs.can (fit_absI fk) (by omega))
            have KC3 := CmpR (Vs.can ((fit_absI fi).sub (fit_absI fk)) (by omega)) (⟨by decide, by decide⟩ : Vs ⟨#[49]⟩ 1)
            have HO := Lib.hid (HORD.out i k hil hkl)
            rw [HIV.out i si hsi, HIV.out k sk hsk] at HO
            generalize cmpI (absI (at0 L i) - absI (at0 L k)) 1 = d3 at *
            generalize cmpI (absI (at0 L i)) (absI (at0 L k)) = d2 at *
            generalize cmpI (valS si) (valS sk) = d1 at *
            generalize canS (absI (at0 L i) - absI (at0 L k)) = ab at *
            generalize canS (absI (at0 L i)) = ai at *
            generalize canS (absI (at0 L k)) = ak at *
            generalize canS (at0 L i) = li at *
            generalize canS (at0 L k) = lk at *
            have bi : (i : Int) < (n : Int) := by omega
            have bk : (k : Int) < (n : Int) := by omega
            clear hsi hsk l1 l2 l3 l4 cwi cwk cli clk gl fi fk zi zk hkn
            go_wp2_with fail
            refine wp_region_kept (by kernel_rfl) (by kernel_rfl) ?_
            repeat (go_big_quiet_step (first | (with_reducible exact KC1.kept hs) | (with_reducible exact KSi.kept hs) | (with_reducible exact KSk.kept hs) | (with_reducible exact KC2.kept hs)))
            refine wpQuiet_nil ?_
            rintro _ ⟨u, rfl⟩
            have x0 := Kept.cell_of ((u.low.cell (p := ⟨g, i, none⟩) (block_lt_of_cell HC.out.1)).trans HC.out.1)
            have x1 := Kept.cell_of ((u.low.cell (p := ⟨g, k, none⟩) (block_lt_of_cell HC.out.2)).trans HC.out.2)
            replace HL := Lib.hid (HL.out.on u.low)
            replace hs := hs.kept u
            clear HC kwi kwk kli klk KC1 KC2
            generalize u.W = wy at *
            clear u
            by_cases hd1 : 0 < d1
            · have q1 : decide (0 < d1) = true := decide_eq_true hd1
              have q2 : decide (d2 < 0) = false := decide_eq_false (fun h => HO.out.1 ⟨hd1, h⟩)
              have q3 : (d1 == 0) = false := beq_eq_false_iff_ne.2 (by omega)
              clear hd1
              go_wp2_with fail
              refine wp_region_kept (by kernel_rfl) (by kernel_rfl) ?_
              repeat (go_big_quiet_step (first | (with_reducible exact KSi.kept hs) | (with_reducible exact KSk.kept hs) | (with_reducible exact KSub.kept hs) | (with_reducible exact KC3.kept hs)))
              refine wpQuiet_nil ?_
              rintro _ ⟨u2, rfl⟩
              replace HL := Lib.hid (HL.out.on u2.low)
              replace hs := hs.kept u2
              clear x0 x1
              generalize u2.W = wz at *
              go_wp2_with fail
              go_roundw
              case rel => exact ⟨k + 1, by omega, by go_num, hs, HL.out⟩
              case measure => simp [intOf]; omega
            · have q1 : decide (0 < d1) = false := decide_eq_false hd1
              by_cases hd0 : d1 = 0
              · have q3 : (d1 == 0) = true := beq_iff_eq.2 hd0
                by_cases hik : i < k
                · have q4 : decide ((i : Int) < (k : Int)) = true := decide_eq_true (by omega)
                  have q4n : decide (i < k) = true := decide_eq_true hik
                  have q2 : decide (d2 < 0) = false := decide_eq_false (by have := (HO.out.2 hd0 hik).1; omega)
                  have q5 : decide (0 < d3) = false := decide_eq_false (by have := (HO.out.2 hd0 hik).2; omega)
                  clear hd0 hd1 hik
                  go_wp2_with fail
                  refine wp_region_kept (by kernel_rfl) (by kernel_rfl) ?_
                  repeat (go_big_quiet_step (first | (with_reducible exact KSi.kept hs) | (with_reducible exact KSk.kept hs) | (with_reducible exact KSub.kept hs) | (with_reducible exact KC3.kept hs)))
                  refine wpQuiet_nil ?_
                  rintro _ ⟨u2, rfl⟩
                  replace HL := Lib.hid (HL.out.on u2.low)
                  replace hs := hs.kept u2
                  clear x0 x1
                  generalize u2.W = wz at *
                  go_wp2_with fail
                  go_roundw
                  case rel => exact ⟨k + 1, by omega, by go_num, hs, HL.out⟩
                  case measure => simp [intOf]; omega
                · have q4 : decide ((i : Int) < (k : Int)) = false := decide_eq_false (by omega)
                  have q4n : decide (i < k) = false := decide_eq_false hik
                  clear hd0 hd1 hik
                  go_wp2_with fail
                  refine wp_region_kept (by kernel_rfl) (by kernel_rfl) ?_
                  repeat (go_big_quiet_step (first | (with_reducible exact KSi.kept hs) | (with_reducible exact KSk.kept hs) | (with_reducible exact KSub.kept hs) | (with_reducible exact KC3.kept hs)))
                  refine wpQuiet_nil ?_
                  rintro _ ⟨u2, rfl⟩
                  replace HL := Lib.hid (HL.out.on u2.low)
                  replace hs := hs.kept u2
                  clear x0 x1
                  generalize u2.W = wz at *
                  go_wp2_with fail
                  go_roundw
                  case rel => exact ⟨k + 1, by omega, by go_num, hs, HL.out⟩
                  case measure => simp [intOf]; omega
              · have q3 : (d1 == 0) = false := beq_eq_false_iff_ne.2 hd0
                clear hd0 hd1
                go_wp2_with fail
                refine wp_region_kept (by kernel_rfl) (by kernel_rfl) ?_
                repeat (go_big_quiet_step (first | (with_reducible exact KSi.kept hs) | (with_reducible exact KSk.kept hs) | (with_reducible exact KSub.kept hs) | (with_reducible exact KC3.kept hs)))
                refine wpQuiet_nil ?_
                rintro _ ⟨u2, rfl⟩
                replace HL := Lib.hid (HL.out.on u2.low)
                replace hs := hs.kept u2
                clear x0 x1
                generalize u2.W = wz at *
                go_wp2_with fail
                go_roundw
                case rel => exact ⟨k + 1, by omega, by go_num, hs, HL.out⟩
                case measure => simp [intOf]; omega
  · have q : (alE t ws != 0) = true := by simpa using he
    generalize alE t ws = ee at *
    clear he hn hz h12 h1005 y0 z0
    go_enter Tryz.func3, Tryz.ntmps3
    go_wp2_with fail
    refine KG1.step (hs.alloc _) HR1.out ?_
    intro w1 hs hb
    go_wp2_with fail
    refine KG2.step hs (HR.out.on hs.2) ?_
    intro w2 hs hb
    go_wp2_with fail
    refine (KR.out w2 hs.gl (HR.out.on hs.2)).mono ?_
    rintro e w3 ⟨v, rfl, hov, hb3⟩
    obtain ⟨A1, c1, rfl, hrow⟩ := hov.row
    replace hs := hs.on hb3
    clear hov hrow
    go_wp2_with fail
    refine KA.step hs ?_
    intro w4 hs hb
    go_wp2_with fail
    go_ret
    exact ⟨rfl, hs.2⟩
end Go.Proofs.YtdpoagcgglfijaaGreatDoor
