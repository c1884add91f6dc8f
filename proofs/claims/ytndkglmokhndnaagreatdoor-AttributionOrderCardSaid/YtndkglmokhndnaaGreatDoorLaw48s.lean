/- Attribution: the walk of AttributionSums: for every input it returns true. Condition: the library's table and error lie as the program's text lays them. -/
import Derived.Test.YtndkglmokhndnaaGreatDoorAt8
namespace Go.Proofs.YtndkglmokhndnaaGreatDoor
open Go.RowKit Go.Shelf Dec QQ

/-- the parts of valid sectors are valid -/
theorem parts_ok {l : List SecS} (h : OkS l) : totE (partsL l) = 0 ∧ totQ (partsL l) = ownQ l - benQ l := by
  have hE : totE (partsL l) = 0 := by
    have hlen : (partsL l).length = l.length := by unfold partsL; rw [List.length_map]
    unfold totE
    rw [if_neg (by have := h.few; omega)]
    refine errL_none fun i hi => ?_
    have hil : i < l.length := by omega
    unfold prtErr partsL
    rw [List.getElem?_map, List.getElem?_eq_getElem hil]
    show (if nameOk l[i].nm = false then 23 else if (partS (benQ l) l[i]).can = false then 1 else 0) = 0
    rw [if_neg (by rw [h.names _ (List.getElem_mem hil)]; decide), if_neg (by rw [show (partS (benQ l) l[i]).can = true from mkP_can _ _ _ _]; decide)]
  refine ⟨hE, ?_⟩
  unfold totQ
  rw [if_pos hE, parts_total h]
theorem eq_zero_mul {x y z : Rat} (h : x = y) : (x - y) * z = 0 := by subst h; grind
theorem eq_mul_zero {x y z : Rat} (h : x = y) : z * (x - y) = 0 := by subst h; grind
set_option maxRecDepth 100000 in
set_option maxHeartbeats 4000000 in
theorem sums48_any {A : Option Addr} {n c : Nat} {l : List SecS} (w : World) (hn : l.length = n) (hc : n ≤ c) (hm : n ≤ 9223372036854775807) (hz : ∀ s ∈ l, s.big) (hr : Row w A (flatG scells l)) (hg : Gl w) :
    Calls Tryz.prog 4 #[.slice A n c] w fun e w' => e = .returned (.bool true) ∧ Below w.heap.size w w' := by
  have hs := St.refl hg
  have AW := awake48
  have KG := great48 (A := A) (c := c) hn hm hz
  have HR := Lib.hid hr
  obtain ⟨t, ht⟩ : ∃ t, greatB l = t := ⟨_, rfl⟩
  rw [ht] at KG
  cases t with
  | true =>
    clear ht hn hm hz hr hc
    go_enter Tryz.func4, Tryz.ntmps4
    go_wp2_with fail
    refine KG.step hs HR.out ?_
    intro w1 hs _
    go_wp2_with fail
    refine AW.step hs ?_
    intro wa hs _
    go_wp2_with fail
    go_ret
    exact ⟨rfl, hs.2⟩
  | false =>
    have hl : 32 < n ∨ FewS 12 l := by have := greatB_not ht; rwa [hn] at this
    have KR := Return_any (A := A) hn hl hc
    have KP := Lib.hid (fun w hg hr => Parts_any (A := A) hn hl hc w hg hr)
    by_cases he : chkS l = 0
    · have hf : FewS 12 l := by
        rcases hl with h32 | hf
        · unfold chkS at he; rw [if_neg (by omega), if_pos (by omega)] at he; cases he
        · exact hf
      have hok := chkS_iff.1 he
      have e1 : retOwn l = ownQ l := if_pos he
      have e2 : retBen l = benQ l := if_pos he
      have e3 : prtsR l = partsL l := if_pos he
      have hlen : (partsL l).length = n := by unfold partsL; rw [List.length_map]; exact hn
      rw [e1, e2, he] at KR
      have HKP : Hid (∀ w, Gl w → Row w A (flatG scells l) → Calls Tryz.prog 24 #[.slice A n c] w fun e w' => ∃ v, e = .returned (.tuple #[v, .int .i64 0]) ∧ OutG pcells 52 7 w.heap.size w' v n (partsL l) ∧ Below w.heap.size w w') := by
        intro w hg hr
        have := KP.out w hg hr
        rw [e3, he, hlen] at this
        exact this
      have HKT : Hid (∀ A' c', RetI (fun w => Row w A' (flatG pcells (partsL l))) 25 #[.slice A' n c'] (.tuple #[FR (ownQ l - benQ l), .int .i64 0])) := fun A' c' => by
        have := Total_any (A := A') (c := c') hlen (.inr (partsL_few hf (by decide)))
        rw [(parts_ok hok).1, (parts_ok hok).2] at this
        exact this
      have KS := SubF (Vq.fr hf.q.2.2.1 (by omega)) (Vq.fr hf.q.2.2.2 (by omega))
      have nE := neqF (frN (ownQ l - benQ l)) (frD (ownQ l - benQ l)) (frN (ownQ l - benQ l)) (frD (ownQ l - benQ l))
      simp only [beq_self_eq_true, Bool.and_true, Bool.not_true] at nE
      unfold FR at KR KS HKT
      unfold FV at KS
      have HN := Lib.hid hn
      have HP : Hid (∀ i s, l[i]? = some s → (partsL l)[i]? = some (partS (benQ l) s)) := fun i s h => by unfold partsL; rw [List.getElem?_map, h]; rfl
      clear KP hlen e1 e2 e3 hok hf he hl ht hz hr hn
      generalize frN (ownQ l - benQ l) = dn at *
      generalize frD (ownQ l - benQ l) = dd at *
      generalize frN (ownQ l) = an at *
      generalize frD (ownQ l) = ad at *
      generalize frN (benQ l) = bn at *
      generalize frD (benQ l) = bd at *
      go_enter Tryz.func4, Tryz.ntmps4
      go_wp2_with fail
      refine KG.step hs HR.out ?_
      intro w1 hs _
      go_wp2_with fail
      refine KR.step hs (HR.out.on hs.2) ?_
      intro w2 hs _
      go_wp2_with fail
      have B3 := (Bx.new w2 #[.string an, .string ad] 42).alloc (.cells #[.string bn, .string bd] 42)
      have B4 := Bx.new1 w2 (.cells #[.string an, .string ad] 42) #[.string bn, .string bd] 42
      have hs1 := (hs.alloc (.cells #[.string an, .string ad] 42)).alloc (.cells #[.string bn, .string bd] 42)
      refine (HKP.out _ hs1.gl (HR.out.on hs1.2)).mono ?_
      rintro e w3 ⟨v, rfl, ho, hb3⟩
      obtain ⟨A', c', hv, hrow⟩ := ho.row
      subst hv
      have hs := hs1.on hb3
      replace B3 := B3.on hb3
      replace B4 := B4.on hb3
      have HX := Lib.hid hrow
      have KT := HKT.out A' c'
      clear ho hrow hb3 hs1 HKP HKT
      go_wp2_with fail
      refine KT.step hs HX.out ?_
      intro w4 hs hb4
      replace B3 := B3.on hb4
      replace B4 := B4.on hb4
      have HX2 := Lib.hid (HX.out.on hb4)
      clear HX hb4
      go_wp2_with fail
      have B8 := Bx.new w4 #[.string dn, .string dd] 42
      have hs1 := hs.alloc (.cells #[.string dn, .string dd] 42)
      have B3a := B3.alloc (.cells #[.string dn, .string dd] 42)
      have B4a := B4.alloc (.cells #[.string dn, .string dd] 42)
      have k0 := B8.keeps (i := 0) (v := .string dn) rfl
      have k1 := B8.keeps (i := 1) (v := .string dd) rfl
      have k2 := B3a.keeps (i := 0) (v := .string an) rfl
      have k3 := B3a.keeps (i := 1) (v := .string ad) rfl
      have k4 := B4a.keeps (i := 0) (v := .string bn) rfl
      have k5 := B4a.keeps (i := 1) (v := .string bd) rfl
      have qn0 : ((n : Int) != (n : Int)) = false := by simp
      have hbb : Below w4.heap.size w4 (w4.alloc (.cells #[.string dn, .string dd] 42)) := (Below.refl _ _).alloc (Nat.le_refl _) _
      refine wp_region_kept (by kernel_rfl) (by kernel_rfl) ?_
      repeat (go_big_quiet_step (first | (with_reducible exact KS.kept hs1)))
      refine wpQuiet_nil ?_
      rintro _ ⟨u, rfl⟩
      have hs := hs1.kept u
      have HX3 := Lib.hid ((HX2.out.on hbb).on u.low)
      clear k0 k1 k2 k3 k4 k5 B3 B4 B8 B3a B4a HX2 hs1 KS KT KR hbb
      generalize u.W = w5 at *
      go_wp2_with fail
      have HB := Lib.hid (Bx.new w5 #[.string ⟨#[]⟩, .string ⟨#[]⟩] 42)
      have HX4 := Lib.hid (HX3.out.on ((Below.refl _ w5).alloc (Nat.le_refl _) (.cells #[.string ⟨#[]⟩, .string ⟨#[]⟩] 42)))
      have hs := hs.alloc (.cells #[.string ⟨#[]⟩, .string ⟨#[]⟩] 42)
      go_loopw [63] (fun s wr => ∃ k : Nat, k ≤ n ∧ s = .int .i64 (k : Int) ∧ St w wr ∧ Hid (Bx wr w5.heap.size #[.string ⟨#[]⟩, .string ⟨#[]⟩]) ∧ Hid (Row wr A' (flatG pcells (partsL l)))) (fun s _ => (n - intOf s).toNat)
      case atStart => exact ⟨0, by omega, rfl, hs, HB, HX4⟩
      case round =>
        obtain ⟨k, hk, rfl, hs, HBk, HXk⟩ := hrel
        by_cases hkn : k = n
        · subst hkn
          have q : decide ((k : Int) < (k : Int)) = false := decide_eq_false (by omega)
          go_wp2_with fail
          refine AW.step hs ?_
          intro wa hs _
          go_wp2_with fail
          go_ret
          exact ⟨rfl, hs.2⟩
        · have hkl : k < n := by omega
          have q : decide ((k : Int) < (n : Int)) = true := decide_eq_true (by omega)
          have qn : decide (k < n) = true := decide_eq_true hkl
          obtain ⟨d, hd⟩ : ∃ d, l[k]? = some d := ⟨l[k]'(by rw [HN.out]; exact hkl), by simp⟩
          obtain ⟨b, o, hA, hb, hcells⟩ := row_at (cs := scells) (m := 9) scells_len (by decide) (HR.out.on hs.2) hd
          obtain ⟨b', o', hA', hb', hcells'⟩ := row_at (cs := pcells) (m := 7) pcells_len (by decide) HXk.out (HP.out k d hd)
          have f1 : ((d.wn.toList == d.vn.toList) && (d.wd.toList == d.vd.toList)) = true → d.w = d.v := fun h => by
            simp only [Bool.and_eq_true, beq_iff_eq] at h
            unfold SecS.w SecS.v
            rw [toList_inj h.1, toList_inj h.2]
          have f2 : ((d.rn.toList == d.bn.toList) && (d.rd.toList == d.bd.toList)) = true → d.r = d.b := fun h => by
            simp only [Bool.and_eq_true, beq_iff_eq] at h
            unfold SecS.r SecS.b
            rw [toList_inj h.1, toList_inj h.2]
          obtain ⟨pa, hpa⟩ : ∃ x, frN ((d.w - d.v) * (d.b - benQ l)) = x := ⟨_, rfl⟩
          obtain ⟨pb, hpb⟩ : ∃ x, frD ((d.w - d.v) * (d.b - benQ l)) = x := ⟨_, rfl⟩
          obtain ⟨pc, hpc⟩ : ∃ x, frN (d.v * (d.r - d.b)) = x := ⟨_, rfl⟩
          obtain ⟨pd, hpd⟩ : ∃ x, frD (d.v * (d.r - d.b)) = x := ⟨_, rfl⟩
          obtain ⟨pe, hpe⟩ : ∃ x, frN ((d.w - d.v) * (d.r - d.b)) = x := ⟨_, rfl⟩
          obtain ⟨pf, hpf⟩ : ∃ x, frD ((d.w - d.v) * (d.r - d.b)) = x := ⟨_, rfl⟩
          have H1 : Hid (((d.wn.toList == d.vn.toList) && (d.wd.toList == d.vd.toList)) = true → pa = ⟨#[]⟩ ∧ pb = ⟨#[]⟩ ∧ pe = ⟨#[]⟩ ∧ pf = ⟨#[]⟩) := fun h => by
            have e := f1 h
            rw [← hpa, ← hpb, ← hpe, ← hpf, eq_zero_mul e, eq_zero_mul e, frN_zero, frD_zero]
            exact ⟨rfl, rfl, rfl, rfl⟩
          have H2 : Hid (((d.rn.toList == d.bn.toList) && (d.rd.toList == d.bd.toList)) = true → pc = ⟨#[]⟩ ∧ pd = ⟨#[]⟩ ∧ pe = ⟨#[]⟩ ∧ pf = ⟨#[]⟩) := fun h => by
            have e := f2 h
            rw [← hpc, ← hpd, ← hpe, ← hpf, eq_mul_zero e, eq_mul_zero e, frN_zero, frD_zero]
            exact ⟨rfl, rfl, rfl, rfl⟩
          have hpx : pcells (partS (benQ l) d) = [.string d.nm, .string pa, .string pb, .string pc, .string pd, .string pe, .string pf] := by
            rw [← hpa, ← hpb, ← hpc, ← hpd, ← hpe, ← hpf]; rfl
          rw [hpx] at hcells'
          clear f1 f2 hpa hpb hpc hpd hpe hpf hpx hd hkn
          subst hA hA'
          obtain ⟨f0, f1, f2, f3, f4, f5, f6, f7, f8⟩ := d
          have x0 : wr.cell? ⟨b, o + k * 9, none⟩ = some (.string f0) := hcells 0 _ rfl
          have x1 : wr.cell? ⟨b, o + k * 9 + 1, none⟩ = some (.string f1) := hcells 1 _ rfl
          have x2 : wr.cell? ⟨b, o + k * 9 + 2, none⟩ = some (.string f2) := hcells 2 _ rfl
          have x3 : wr.cell? ⟨b, o + k * 9 + 3, none⟩ = some (.string f3) := hcells 3 _ rfl
          have x4 : wr.cell? ⟨b, o + k * 9 + 4, none⟩ = some (.string f4) := hcells 4 _ rfl
          have x5 : wr.cell? ⟨b, o + k * 9 + 5, none⟩ = some (.string f5) := hcells 5 _ rfl
          have x6 : wr.cell? ⟨b, o + k * 9 + 6, none⟩ = some (.string f6) := hcells 6 _ rfl
          have x7 : wr.cell? ⟨b, o + k * 9 + 7, none⟩ = some (.string f7) := hcells 7 _ rfl
          have x8 : wr.cell? ⟨b, o + k * 9 + 8, none⟩ = some (.string f8) := hcells 8 _ rfl
          have y0 : wr.cell? ⟨b', o' + k * 7, none⟩ = some (.string f0) := hcells' 0 _ rfl
          have y1 : wr.cell? ⟨b', o' + k * 7 + 1, none⟩ = some (.string pa) := hcells' 1 _ rfl
          have y2 : wr.cell? ⟨b', o' + k * 7 + 2, none⟩ = some (.string pb) := hcells' 2 _ rfl
          have y3 : wr.cell? ⟨b', o' + k * 7 + 3, none⟩ = some (.string pc) := hcells' 3 _ rfl
          have y4 : wr.cell? ⟨b', o' + k * 7 + 4, none⟩ = some (.string pd) := hcells' 4 _ rfl
          have y5 : wr.cell? ⟨b', o' + k * 7 + 5, none⟩ = some (.string pe) := hcells' 5 _ rfl
          have y6 : wr.cell? ⟨b', o' + k * 7 + 6, none⟩ = some (.string pf) := hcells' 6 _ rfl
          clear hcells hcells'
          dsimp only at H1 H2
          have z0 := eqlF f1 f2 f5 f6
          have z1 := eqlF f3 f4 f7 f8
          have hba : Below wr.heap.size wr ((wr.alloc (.cells #[.string f0, .string pa, .string pb, .string pc, .string pd, .string pe, .string pf] 52)).alloc (.cells #[.string f0, .string f1, .string f2, .string f3, .string f4, .string f5, .string f6, .string f7, .string f8] 54)) := ((Below.refl _ _).alloc (Nat.le_refl _) _).alloc (by simp) _
          have hbw := (HBk.out.on hba).cell (i := 0) (v := .string ⟨#[]⟩) rfl
          have hbw1 := (HBk.out.on hba).cell (i := 1) (v := .string ⟨#[]⟩) rfl
          have xs : ∀ (j : Nat) (v : Value), wr.cell? ⟨b, j, none⟩ = some v → (wr.alloc (.cells #[.string f0, .string pa, .string pb, .string pc, .string pd, .string pe, .string pf] 52)).cell? ⟨b, j, none⟩ = some v := fun j v h => (((Below.refl _ wr).alloc (Nat.le_refl _) _).cell (p := ⟨b, j, none⟩) hb).trans h
          have xx0 := xs _ _ x0
          have xx1 := xs _ _ x1
          have xx2 := xs _ _ x2
          have xx3 := xs _ _ x3
          have xx4 := xs _ _ x4
          have xx5 := xs _ _ x5
          have xx6 := xs _ _ x6
          have xx7 := xs _ _ x7
          have xx8 := xs _ _ x8
          clear xs
          obtain ⟨t1, ht1⟩ : ∃ t, ((f1.toList == f5.toList) && (f2.toList == f6.toList)) = t := ⟨_, rfl⟩
          obtain ⟨t2, ht2⟩ : ∃ t, ((f3.toList == f7.toList) && (f4.toList == f8.toList)) = t := ⟨_, rfl⟩
          rw [ht1] at z0 H1
          rw [ht2] at z1 H2
          clear ht1 ht2
          cases t1 with
          | true =>
            obtain ⟨rfl, rfl, rfl, rfl⟩ := H1.out rfl
            have n1 := neqF ⟨#[]⟩ ⟨#[]⟩ ⟨#[]⟩ ⟨#[]⟩
            simp only [beq_self_eq_true, Bool.and_true, Bool.not_true] at n1
            cases t2 with
            | true =>
              obtain ⟨rfl, rfl, _, _⟩ := H2.out rfl
              go_wp2_with fail
              go_roundw
              case rel => exact ⟨k + 1, by omega, by go_num, (hs.alloc _).alloc _, HBk.out.on hba, HXk.out.on hba⟩
              case measure => simp [intOf]; omega
            | false =>
              go_wp2_with fail
              go_roundw
              case rel => exact ⟨k + 1, by omega, by go_num, (hs.alloc _).alloc _, HBk.out.on hba, HXk.out.on hba⟩
              case measure => simp [intOf]; omega
          | false =>
            cases t2 with
            | true =>
              obtain ⟨rfl, rfl, rfl, rfl⟩ := H2.out rfl
              have n1 := neqF ⟨#[]⟩ ⟨#[]⟩ ⟨#[]⟩ ⟨#[]⟩
              simp only [beq_self_eq_true, Bool.and_true, Bool.not_true] at n1
              go_wp2_with fail
              go_roundw
              case rel => exact ⟨k + 1, by omega, by go_num, (hs.alloc _).alloc _, HBk.out.on hba, HXk.out.on hba⟩
              case measure => simp [intOf]; omega
            | false =>
              go_wp2_with fail
              go_roundw
              case rel => exact ⟨k + 1, by omega, by go_num, (hs.alloc _).alloc _, HBk.out.on hba, HXk.out.on hba⟩
              case measure => simp [intOf]; omega
    · have e1 : retOwn l = 0 := if_neg he
      have e2 : retBen l = 0 := if_neg he
      have e3 : prtsR l = [] := if_neg he
      have q : (chkS l != 0) = true := by simpa using he
      have q2 : (chkS l != chkS l) = false := by simp
      rw [e1, e2] at KR
      have HKP : Hid (∀ w, Gl w → Row w A (flatG scells l) → Calls Tryz.prog 24 #[.slice A n c] w fun e w' => ∃ v, e = .returned (.tuple #[v, .int .i64 (chkS l)]) ∧ OutG pcells 52 7 w.heap.size w' v 0 [] ∧ Below w.heap.size w w') := by
        intro w hg hr
        have := KP.out w hg hr
        rw [e3] at this
        exact this
      unfold FR at KR
      rw [frN_zero, frD_zero] at KR
      generalize chkS l = ch at *
      clear KP e1 e2 e3 he hl ht hz hr hn
      go_enter Tryz.func4, Tryz.ntmps4
      go_wp2_with fail
      refine KG.step hs HR.out ?_
      intro w1 hs _
      go_wp2_with fail
      refine KR.step hs (HR.out.on hs.2) ?_
      intro w2 hs _
      go_wp2_with fail
      have hs1 := (hs.alloc (.cells #[.string ⟨#[]⟩, .string ⟨#[]⟩] 42)).alloc (.cells #[.string ⟨#[]⟩, .string ⟨#[]⟩] 42)
      refine (HKP.out _ hs1.gl (HR.out.on hs1.2)).mono ?_
      rintro e w3 ⟨v, rfl, ho, hb3⟩
      obtain ⟨A', c', hv, hrow⟩ := ho.row
      subst hv
      have hs := hs1.on hb3
      clear ho hrow hb3 hs1 HKP
      go_wp2_with fail
      refine AW.step hs ?_
      intro wa hs _
      go_wp2_with fail
      go_ret
      exact ⟨rfl, hs.2⟩
end Go.Proofs.YtndkglmokhndnaaGreatDoor
