/- Attribution, the reference: Amounts. Conditions: up to five parts with numbers of bounded length, or more than 32. -/
import Derived.Test.YtndkglmokhndnaaGreatDoorRa48
import Derived.Test.YtndkglmokhndnaaGreatDoorAm
namespace Go.Proofs.YtndkglmokhndnaaGreatDoor
open Go.RowKit Go.Shelf Dec QQ

theorem amt_unit (T : Rat) (A : Int) (l : List PrtS) (k : Nat) (h : T ≠ 0) : (sumQ PrtS.all (l.take k) * quoQ (A : Rat) T).floor = amtL T A l k := by
  unfold amtL quoQ
  rw [if_neg h]
  congr 1
  rw [Rat.div_def, Rat.div_def]
  grind
theorem fit_int (a : ByteArray) (k : Nat) (h : a.size ≤ k) (h1 : 1 ≤ k) : FitQ k ((valS a : Int) : Rat) := FitQ.int (Fit.val h) h1
theorem rchkI (a : ByteArray) (h : a.size ≤ 1000) : Ret 123 #[.string a] (.int .i64 (chk a)) := rchkR (by omega)
set_option maxRecDepth 100000 in
set_option maxHeartbeats 4000000 in
theorem rAmounts_any {A : Option Addr} {n c k0 : Nat} {l : List PrtS} {a : ByteArray} (hn : l.length = n) (hl : 32 < n ∨ FewP k0 l) (ha : a.size ≤ 1000) (hk0 : k0 ≤ 100) (w : World) (hg : Gl w) (hr : Row w A (flatG pcells l)) :
    Calls Tryz.prog 55 #[.slice A n c, .string a] w fun e w' => ∃ v, e = .returned (.tuple #[v, .int .i64 (amtE l a)]) ∧ OutG icells 30 1 w.heap.size w' v (amtR l a).length (amtR l a) ∧ Below w.heap.size w w' := by
  by_cases he : totE l = 0
  · have hf : FewP k0 l := by
      rcases hl with h | h
      · have := totE_len he; omega
      · exact h
    by_cases hk : chk a = 0
    · have h5 := hf.1
      have KT := rTotal_any (A := A) (c := c) hn hl
      rw [he] at KT
      have KC := rchkI a ha
      rw [hk] at KC
      have hq : FitQ (5 * (3 * k0 + 3) + 1) (totQ l) := by
        have := hf.sum l.length
        rwa [List.take_of_length_le (Nat.le_refl _), ← totQ_ok he] at this
      have zt := FitQ.sizes hq
      have hoa : FitQ 1000 ((valS a : Int) : Rat) := fit_int a 1000 ha (by omega)
      have zo := FitQ.sizes hoa
      have KOf := rof_r (a := a) (by omega)
      have KQuo := rquo_r (a := frN ((valS a : Int) : Rat)) (b := frD ((valS a : Int) : Rat)) (c := frN (totQ l)) (d := frD (totQ l)) (by omega) (by omega) (by omega) (by omega)
      rw [ratV_fr, ratV_fr] at KQuo
      have HQE : Hid ((totQ l = 0 → quoE (totQ l) = 10 ∧ amtE l a = 10 ∧ amtR l a = []) ∧ (totQ l ≠ 0 → quoE (totQ l) = 0 ∧ amtE l a = 0 ∧ amtR l a = amtsL (totQ l) (valS a) l n)) := by
        refine ⟨fun h => ?_, fun h => ?_⟩
        · have e1 : amtE l a = 10 := by unfold amtE; rw [if_neg (by simpa using he), if_neg (by simpa using hk), if_pos h]
          exact ⟨if_pos h, e1, by unfold amtR; rw [e1]; rfl⟩
        · have e1 : amtE l a = 0 := amtE_ok.2 ⟨he, hk, h⟩
          exact ⟨if_neg h, e1, by unfold amtR; rw [e1, if_pos rfl, hn]⟩
      have HUN := Lib.hid (fun k h => amt_unit (totQ l) (valS a) l k h)
      have HU : Hid (totQ l ≠ 0 → FitQ (1000 + (5 * (3 * k0 + 3) + 1)) (quoQ ((valS a : Int) : Rat) (totQ l))) := fun h => by
        unfold quoQ
        rw [if_neg h]
        exact hoa.div hq
      generalize amtE l a = AE at *
      generalize amtR l a = AR at *
      unfold FR at KT KOf KQuo
      unfold FV at KQuo
      obtain ⟨T, hT⟩ : ∃ T, totQ l = T := ⟨_, rfl⟩
      clear he hk zt zo hoa
      rw [hT] at KT KQuo HQE HUN HU
      clear hT hq
      obtain ⟨U, hU⟩ : ∃ U, quoQ ((valS a : Int) : Rat) T = U := ⟨_, rfl⟩
      rw [hU] at KQuo HUN HU
      clear hU
      generalize quoE T = qe at *
      generalize frN T = tn at *
      generalize frD T = td at *
      obtain ⟨un, hun⟩ : ∃ x, frN U = x := ⟨_, rfl⟩
      obtain ⟨ud, hud⟩ : ∃ x, frD U = x := ⟨_, rfl⟩
      rw [hun, hud] at KQuo
      have HUN' := Lib.hid hun
      have HUD' := Lib.hid hud
      clear hun hud
      generalize frN ((valS a : Int) : Rat) = on at *
      generalize frD ((valS a : Int) : Rat) = od at *
      have HN := Lib.hid hn
      have HL := Lib.hid hf
      have HR := Lib.hid hr
      clear hn hl hr hf ha
      have h5n : n ≤ 5 := by have := HL.out.1; have := HN.out; omega
      have hs := St.refl hg
      go_enter Tryz.func55, Tryz.ntmps55
      go_wp2_with fail
      refine KT.step hs HR.out ?_
      intro w1 hs hb1
      go_wp2_with fail
      have XT := Bx.new w1 #[.string tn, .string td] 42
      replace hs := hs.alloc (.cells #[.string tn, .string td] 42)
      have hbT0 : w.heap.size ≤ w1.heap.size := hb1.size
      refine KC.step hs ?_
      intro W3 hsX hb2
      replace XT := XT.on hb2
      clear hs hb1 hb2
      obtain ⟨bT, hbT⟩ : ∃ b, w1.heap.size = b := ⟨_, rfl⟩
      rw [hbT] at XT ⊢
      clear hbT
      go_wp2_with fail
      have e3 : W3.drew.heap.size = W3.heap.size := rfl
      have low0 : Below W3.heap.size W3 W3 := Below.refl _ _
      have X0 : Bx W3 bT #[.string tn, .string td] := XT
      have Xl0 := X0.lt
      have x00 := X0.cell (i := 0) (v := .string tn) rfl
      have x01 := X0.cell (i := 1) (v := .string td) rfl
      go_region_held3 (fun w' => w'.cell? ⟨bT, 0, none⟩ = some (.string tn) ∧ w'.cell? ⟨bT, 1, none⟩ = some (.string td))
        (first
          | (with_reducible exact ⟨b00, b01⟩)
          | (with_reducible exact ⟨a00, a01⟩)
          | (with_reducible exact ⟨x00, x01⟩)
          | exact ⟨(B0.alloc _).cell (i := 0) (v := .string tn) rfl, (B0.alloc _).cell (i := 1) (v := .string td) rfl⟩
          | exact ⟨(A0.alloc _).cell (i := 0) (v := .string tn) rfl, (A0.alloc _).cell (i := 1) (v := .string td) rfl⟩
          | exact ⟨(X0.alloc _).cell (i := 0) (v := .string tn) rfl, (X0.alloc _).cell (i := 1) (v := .string td) rfl⟩
          | exact ⟨(X0.drew.alloc _).cell (i := 0) (v := .string tn) rfl, (X0.drew.alloc _).cell (i := 1) (v := .string td) rfl⟩
          | exact ⟨(X0.alloc _).drew.cell (i := 0) (v := .string tn) rfl, (X0.alloc _).drew.cell (i := 1) (v := .string td) rfl⟩
          | exact ⟨((B0.other (by omega) 0 (.string un)).other (by omega) 1 (.string ud)).cell (i := 0) (v := .string tn) rfl, ((B0.other (by omega) 0 (.string un)).other (by omega) 1 (.string ud)).cell (i := 1) (v := .string td) rfl⟩
          | exact ⟨(((B0.alloc _).other (by omega) 0 (.string un)).other (by omega) 1 (.string ud)).cell (i := 0) (v := .string tn) rfl, (((B0.alloc _).other (by omega) 0 (.string un)).other (by omega) 1 (.string ud)).cell (i := 1) (v := .string td) rfl⟩
          | (go_keep; done))
        (first
          | (go_at_call 96
             refine KOf.step (by first | with_reducible exact hsX.drew | with_reducible exact hsX | with_reducible exact (hsX.alloc _).drew | with_reducible exact hsX.alloc _) ?_
             intro wA hsA hbA
             have A0 : Bx wA bT #[.string tn, .string td] := (by first | with_reducible exact X0.drew.on hbA | with_reducible exact X0.on hbA | with_reducible exact (X0.alloc _).drew.on hbA | with_reducible exact (X0.alloc _).on hbA)
             have lowA : Below W3.heap.size W3 wA := (by first | with_reducible exact low0.trans (hbA.mono low0.size) | exact low0.drew.trans (hbA.mono low0.drew.size) | exact (low0.alloc low0.size _).trans (hbA.mono (by rw [World.size_alloc]; have := low0.size; omega)) | exact (low0.alloc low0.size _).drew.trans (hbA.mono (by show _ ≤ (World.alloc _ _).heap.size; rw [World.size_alloc]; have := low0.size; omega)))
             have a00 := A0.cell (i := 0) (v := .string tn) rfl
             have a01 := A0.cell (i := 1) (v := .string td) rfl
             have Al0 := A0.lt
             (first | have ZZ := pk_on ZZ hbA | have ZZ := pk_on (pk_new low0) hbA | have ZZ := pk_on (pk_drew (pk_new low0)) hbA | skip)
             (try have zz0 := ZZ.z.cell (i := 0) (v := .string ⟨#[]⟩) rfl)
             (try have zz1 := ZZ.z.cell (i := 1) (v := .string ⟨#[]⟩) rfl)
             (try have zf0 := ZZ.z.frozen 0)
             (try have zf1 := ZZ.z.frozen 1))
          | (go_at_call 97
             refine KQuo.step (by first | with_reducible exact hsA.drew | with_reducible exact hsA | with_reducible exact (hsA.alloc _).drew | with_reducible exact hsA.alloc _) ?_
             intro wB hsB hbB
             have B0 : Bx wB bT #[.string tn, .string td] := (by first | with_reducible exact A0.drew.on hbB | with_reducible exact A0.on hbB | with_reducible exact (A0.alloc _).drew.on hbB | with_reducible exact (A0.alloc _).on hbB)
             have lowB : Below W3.heap.size W3 wB := (by first | with_reducible exact lowA.trans (hbB.mono lowA.size) | exact lowA.drew.trans (hbB.mono lowA.drew.size) | exact (lowA.alloc lowA.size _).trans (hbB.mono (by rw [World.size_alloc]; have := lowA.size; omega)) | exact (lowA.alloc lowA.size _).drew.trans (hbB.mono (by show _ ≤ (World.alloc _ _).heap.size; rw [World.size_alloc]; have := lowA.size; omega)))
             have b00 := B0.cell (i := 0) (v := .string tn) rfl
             have b01 := B0.cell (i := 1) (v := .string td) rfl
             have Bl0 := B0.lt
             (first | have ZZ := pk_on ZZ hbB | have ZZ := pk_on (pk_new lowA) hbB | have ZZ := pk_on (pk_drew (pk_new lowA)) hbB | skip)
             (try have zz0 := ZZ.z.cell (i := 0) (v := .string ⟨#[]⟩) rfl)
             (try have zz1 := ZZ.z.cell (i := 1) (v := .string ⟨#[]⟩) rfl)
             (try have zf0 := ZZ.z.frozen 0)
             (try have zf1 := ZZ.z.frozen 1)))
      all_goals
        first
          | (have P := pk_set (bz := wA.heap.size) ZZ un ud; generalize (wB.setCell ⟨wA.heap.size, 0, none⟩ (.string un)).setCell ⟨wA.heap.size, 1, none⟩ (.string ud) = W4 at P ⊢; generalize wA.heap.size = bz at P ⊢)
          | (have P := pk_set (bz := W3.heap.size) ZZ un ud; generalize (wB.setCell ⟨W3.heap.size, 0, none⟩ (.string un)).setCell ⟨W3.heap.size, 1, none⟩ (.string ud) = W4 at P ⊢; generalize W3.heap.size = bz at P ⊢)
          | (have P := pk_alloc (n := un) (d := ud) lowB; generalize wB.alloc (.cells #[.string un, .string ud] 42) = W4 at P ⊢; generalize wB.heap.size = bz at P ⊢)
      all_goals
        have hs4 := hsX.on P.low
        have HT4 := Lib.hid (XT.on P.low)
        have HZ4 := Lib.hid P.z
        clear P low0 e3 lowA lowB X0 A0 B0 Xl0 Al0 Bl0 x00 x01 a00 a01 b00 b01 hbA hbB hsA hsB KOf KQuo KC KT XT hsX
        (try clear ZZ zz0 zz1 zf0 zf1)
        by_cases h0 : T = 0
        · obtain ⟨e1, e2, e3⟩ := HQE.out.1 h0
          subst e1 e2 e3
          clear HQE h0 HUN HU
          go_wp2_with fail
          go_ret2
          exact ⟨_, rfl, ⟨rfl, World.ownsRow_nil _ _ _ _⟩, hs4.2⟩
        · obtain ⟨e1, e2, e3⟩ := HQE.out.2 h0
          subst e1 e2 e3
          have hUN := Lib.hid (fun k => HUN.out k h0)
          have hU := Lib.hid (HU.out h0)
          clear HQE h0 HUN HU
          go_wp2_with fail
          have XPt := Bx.new W4 #[.string ⟨#[]⟩, .string ⟨#[]⟩] 42
          have hs := hs4.alloc (.cells #[.string ⟨#[]⟩, .string ⟨#[]⟩] 42)
          have HZ5 := Lib.hid (HZ4.out.alloc (.cells #[.string ⟨#[]⟩, .string ⟨#[]⟩] 42))
          have hlz := HZ4.out.lt
          have HXP : Hid (Bx (W4.alloc (.cells #[.string ⟨#[]⟩, .string ⟨#[]⟩] 42)) W4.heap.size #[.string (frN (sumQ PrtS.all (l.take 0))), .string (frD (sumQ PrtS.all (l.take 0)))]) := by
            show Bx _ _ _
            rw [List.take_zero, show sumQ PrtS.all [] = 0 from rfl, frN_zero, frD_zero]
            exact XPt
          have HOW : Hid (World.ownsRow (W4.alloc (.cells #[.string ⟨#[]⟩, .string ⟨#[]⟩] 42)) (W4.heap.size + 1) 30 1 (.slice none 0 0) 0 (flatG icells (amtsL T (valS a) l 0))) := World.ownsRow_nil _ _ _ _
          have hz0 : canS (amtL T (valS a) l 0) = ⟨#[]⟩ := by rw [amt_start]; exact frN_zero
          have HZ0 := Lib.hid hz0
          have hwb : w.heap.size ≤ W4.heap.size := hs4.2.size
          clear XPt hz0 HZ4 HT4 hs4
          go_wp2_with fail
          generalize W4.alloc (.cells #[.string ⟨#[]⟩, .string ⟨#[]⟩] 42) = W5 at *
          obtain ⟨bP, hbP⟩ : ∃ b, W4.heap.size = b := ⟨_, rfl⟩
          rw [hbP] at HXP HOW hwb hlz ⊢
          clear hbP
          go_loopw [12, 11, 9] (fun s b v wr => ∃ k : Nat, k ≤ n ∧ s = .int .i64 (k : Int) ∧ b = .string (canS (amtL T (valS a) l k)) ∧ St w wr ∧ Hid (Bx wr bz #[.string un, .string ud]) ∧ Hid (Bx wr bP #[.string (frN (sumQ PrtS.all (l.take k))), .string (frD (sumQ PrtS.all (l.take k)))]) ∧ Hid (wr.ownsRow (bP + 1) 30 1 v k (flatG icells (amtsL T (valS a) l k)))) (fun s _ _ _ => (n - intOf s).toNat)
          case atStart => exact ⟨0, by omega, rfl, by rw [HZ0.out], hs, HZ5, HXP, HOW⟩
          case round =>
            obtain ⟨k, hk, rfl, rfl, hs, HX1, HX2, HO⟩ := hrel
            by_cases hkn : k = n
            · subst hkn
              have q : decide ((k : Int) < (k : Int)) = false := decide_eq_false (by omega)
              go_wp2_with fail
              go_ret2
              exact ⟨_, rfl, by rw [amtsL_len]; exact ⟨amtsL_len _ _ _ _, own_low HO.out (by omega)⟩, hs.2⟩
            · have hkl : k < n := by omega
              have q : decide ((k : Int) < (n : Int)) = true := decide_eq_true (by omega)
              have qn : decide (k < n) = true := decide_eq_true hkl
              obtain ⟨d, hd⟩ : ∃ d, l[k]? = some d := ⟨l[k]'(by rw [HN.out]; exact hkl), by simp⟩
              obtain ⟨b, o, hA, hb, hcells⟩ := row_at (cs := pcells) (m := 7) pcells_len (by decide) (HR.out.on hs.2) hd
              have hdz := HL.out.2.2.2 d (List.mem_of_getElem? hd)
              have KAll := rsum_any d (hdz.mono (by omega))
              have zz1 := FitQ.sizes (HL.out.sum k)
              have zz2 := FitQ.sizes (HL.out.fit (List.mem_of_getElem? hd))
              have zz3 := FitQ.sizes (HL.out.sum (k + 1))
              have zz4 := FitQ.sizes hU.out
              have fp := (HL.out.sum (k + 1)).mul hU.out
              have zz5 := FitQ.sizes fp
              have KAdd := radd_r (a := frN (sumQ PrtS.all (l.take k))) (b := frD (sumQ PrtS.all (l.take k))) (c := frN d.all) (d := frD d.all) (by omega) (by omega) (by omega) (by omega)
              rw [ratV_fr, ratV_fr, ← sumQ_take hd] at KAdd
              have KMul := rmul_r (a := frN (sumQ PrtS.all (l.take (k + 1)))) (b := frD (sumQ PrtS.all (l.take (k + 1)))) (c := frN U) (d := frD U) (by omega) (by omega) (by omega) (by omega)
              rw [ratV_fr, ratV_fr, HUN'.out, HUD'.out] at KMul
              have KFl := rfloor_r (a := frN (sumQ PrtS.all (l.take (k + 1)) * U)) (b := frD (sumQ PrtS.all (l.take (k + 1)) * U)) (by omega) (by omega)
              rw [ratV_fr, hUN.out] at KFl
              have fp0 := (HL.out.sum k).mul hU.out
              have ff1 := floor_fit fp
              have ff0 := floor_fit fp0
              rw [hUN.out] at ff1 ff0
              have sz1 := Fit.size ff1
              have sz0 := Fit.size ff0
              have KSub := rSubR (a := canS (amtL T (valS a) l (k + 1))) (b := canS (amtL T (valS a) l k)) (by omega) (by omega)
              rw [valS_canS, valS_canS] at KSub
              have HSU := Lib.hid (amtsL_succ T (valS a) l k)
              subst hA
              unfold FR at KAll KAdd KMul
              unfold FV at KAdd KMul KFl
              have BX1 := HX1.out
              have BX2 := HX2.out
              have hfl : ∀ x : Int, flatG icells (amtsL T (valS a) l k ++ [x]) = flatG icells (amtsL T (valS a) l k) ++ [.string (canS x)] := fun x => flatG_snoc _ _
              have HFL := Lib.hid (hfl (amtL T (valS a) l (k + 1) - amtL T (valS a) l k))
              rw [← HSU.out] at HFL
              clear hfl hd hkn hdz fp fp0 ff1 ff0 HSU zz1 zz2 zz3 zz4 zz5 sz1 sz0
              obtain ⟨sn, hsn⟩ : ∃ x, frN (sumQ PrtS.all (l.take (k + 1))) = x := ⟨_, rfl⟩
              obtain ⟨sd, hsd⟩ : ∃ x, frD (sumQ PrtS.all (l.take (k + 1))) = x := ⟨_, rfl⟩
              have HSN := Lib.hid hsn
              have HSD := Lib.hid hsd
              rw [hsn, hsd] at KAdd KMul
              clear hsn hsd
              generalize frN (sumQ PrtS.all (l.take k)) = bn at *
              generalize frD (sumQ PrtS.all (l.take k)) = bd at *
              generalize frN d.all = gn at *
              generalize frD d.all = gd at *
              generalize frN (sumQ PrtS.all (l.take (k + 1)) * U) = mn at *
              generalize frD (sumQ PrtS.all (l.take (k + 1)) * U) = md at *
              obtain ⟨z1, hz1⟩ : ∃ x, canS (amtL T (valS a) l (k + 1)) = x := ⟨_, rfl⟩
              have HZ1 := Lib.hid hz1
              rw [hz1] at KFl KSub
              clear hz1
              generalize canS (amtL T (valS a) l k) = z0 at *
              generalize canS (amtL T (valS a) l (k + 1) - amtL T (valS a) l k) = zd at *
              obtain ⟨f0, f1, f2, f3, f4, f5, f6⟩ := d
              have k0 : ∀ u : Kept wr, u.W.cell? ⟨b, o + k * 7, none⟩ = some (.string f0) := fun u => Kept.cell_of (show wr.cell? ⟨b, o + k * 7, none⟩ = some (.string f0) from hcells 0 _ rfl) u
              have k1 : ∀ u : Kept wr, u.W.cell? ⟨b, o + k * 7 + 1, none⟩ = some (.string f1) := fun u => Kept.cell_of (show wr.cell? ⟨b, o + k * 7 + 1, none⟩ = some (.string f1) from hcells 1 _ rfl) u
              have k2 : ∀ u : Kept wr, u.W.cell? ⟨b, o + k * 7 + 2, none⟩ = some (.string f2) := fun u => Kept.cell_of (show wr.cell? ⟨b, o + k * 7 + 2, none⟩ = some (.string f2) from hcells 2 _ rfl) u
              have k3 : ∀ u : Kept wr, u.W.cell? ⟨b, o + k * 7 + 3, none⟩ = some (.string f3) := fun u => Kept.cell_of (show wr.cell? ⟨b, o + k * 7 + 3, none⟩ = some (.string f3) from hcells 3 _ rfl) u
              have k4 : ∀ u : Kept wr, u.W.cell? ⟨b, o + k * 7 + 4, none⟩ = some (.string f4) := fun u => Kept.cell_of (show wr.cell? ⟨b, o + k * 7 + 4, none⟩ = some (.string f4) from hcells 4 _ rfl) u
              have k5 : ∀ u : Kept wr, u.W.cell? ⟨b, o + k * 7 + 5, none⟩ = some (.string f5) := fun u => Kept.cell_of (show wr.cell? ⟨b, o + k * 7 + 5, none⟩ = some (.string f5) from hcells 5 _ rfl) u
              have k6 : ∀ u : Kept wr, u.W.cell? ⟨b, o + k * 7 + 6, none⟩ = some (.string f6) := fun u => Kept.cell_of (show wr.cell? ⟨b, o + k * 7 + 6, none⟩ = some (.string f6) from hcells 6 _ rfl) u
              clear hcells
              dsimp only [prtV] at KAll
              have hlt2 := BX2.lt
              have hlt3 := BX1.lt
              have k7 := BX2.keeps (i := 0) (v := .string bn) rfl
              have k8 := BX2.keeps (i := 1) (v := .string bd) rfl
              go_wp2_with fail
              refine wp_region_kept_tail 7 (by kernel_rfl) (by kernel_rfl) ?_
              simp only [List.take_succ_cons, List.take_zero, List.drop_succ_cons, List.drop_zero]
              repeat (go_big_quiet_step (first | (with_reducible exact KAll.kept hs) | (with_reducible exact KAdd.kept hs)))
              refine wpQuiet_nil ?_
              rintro _ ⟨u, rfl⟩
              have BU := BX2.kept u
              have BT := BX1.kept u
              have u0 := BU.cell (i := 0) (v := .string bn) rfl
              have u1 := BU.cell (i := 1) (v := .string bd) rfl
              have v0 := BU.frozen 0
              have v1 := BU.frozen 1
              have u2 := BT.cell (i := 0) (v := .string un) rfl
              have u3 := BT.cell (i := 1) (v := .string ud) rfl
              have n1 : ¬ bz = bP := by omega
              have n2 : ¬ bP = bz := by omega
              go_wp2_with fail
              have hs3 := (((hs.kept u).set (b := bP) (by omega) 0 (.string sn)).set (b := bP) (by omega) 1 (.string sd))
              have X6 := (BU.set 0 (.string sn)).set 1 (.string sd)
              have X9 := (BT.other (c := bP) (by omega) 0 (.string sn)).other (c := bP) (by omega) 1 (.string sd)
              have HO3 := Lib.hid (own_set (own_set (own_below HO.out u.low) (c := bP) (by omega) 0 (.string sn)) (c := bP) (by omega) 1 (.string sd))
              clear u0 u1 u2 u3 v0 v1 k0 k1 k2 k3 k4 k5 k6 k7 k8 BU BT BX1 BX2 HX1 HX2 HO hs KAll KAdd
              generalize (u.W.setCell ⟨bP, 0, none⟩ (.string sn)).setCell ⟨bP, 1, none⟩ (.string sd) = W6 at *
              replace X6 : Bx W6 bP #[.string sn, .string sd] := X6
              replace X9 : Bx W6 bz #[.string un, .string ud] := X9
              refine KMul.step hs3 ?_
              intro w7 hs hb7
              go_wp2_with fail
              refine KFl.step hs ?_
              intro w8 hs hb8
              go_wp2_with fail
              refine KSub.step hs ?_
              intro w9 hs hb9
              have H69 := Lib.hid (((X6.on hb7).on hb8).on hb9)
              have H99 := Lib.hid (((X9.on hb7).on hb8).on hb9)
              have HO9 := Lib.hid (own_below (own_below (own_below HO3.out hb7) hb8) hb9)
              have hsz9 := hs.2.size
              have hlt9 : bP < w9.heap.size := H69.out.lt
              obtain ⟨i0, hi, hz0, hz1, hz2⟩ := info_parts infoI30
              have Hi := Lib.hid hi
              have Hz0 := Lib.hid hz0
              have Hz1 := Lib.hid hz1
              have Hz2 := Lib.hid hz2
              have hnz : ∀ g, u9.ownBlock = some g → bP + 1 ≤ g ∧ g < w9.heap.size := fun g hg => HO9.out.lt g hg
              have HNZ := Lib.hid hnz
              clear hi hz0 hz1 hz2 hb7 hb8 hb9 X6 X9 HO3 hnz
              go_wp2_with (at_builtin; refine wpList_append_any _ rfl (.tmp 53) (.tmp 57) 65 rfl (bP + 1) 30 i0 (.string ⟨#[]⟩) 1 16 (by kernel_rfl) Hi.out Hz0.out Hz1.out Hz2.out rfl (by omega) _ k (flatG icells (amtsL T (valS a) l k)) rfl (HO9.out.alloc _) (w9.heap.size + 1) (some ⟨w9.heap.size, 0, none⟩) 1 1 [.string zd] rfl (reads_row w9 30 [.string zd]) (by intro u hu; simp at hu; subst hu; rfl) (by unfold maxLen; omega) (by omega) (by simp; omega) ?_; intro v7 w7' hown7 hg7 _; have HO7 := Lib.hid hown7; have HG7 := Lib.hid hg7; clear hown7 hg7)
              go_roundw
              case rel =>
                refine ⟨k + 1, by omega, by go_num, by rw [HZ1.out], ⟨hs.1, (hs.2.alloc hsz9 _).grown HG7.out (by simp; omega) (fun g hg => by have := (HNZ.out g hg).1; omega)⟩, ?_, ?_, ?_⟩
                · exact (H99.out.alloc _).grown HG7.out (fun e => by have := (HNZ.out _ e.symm).1; omega)
                · show Bx _ _ _
                  rw [HSN.out, HSD.out]
                  exact (H69.out.alloc _).grown HG7.out (fun e => by have := (HNZ.out _ e.symm).1; omega)
                · show World.ownsRow _ _ _ _ _ _ _
                  rw [HFL.out]
                  exact HO7.out
              case measure => simp [intOf]; omega
    · have e1 : amtE l a = 1 := by unfold amtE; rw [if_neg (by simpa using he), if_pos hk]
      have e2 : amtR l a = [] := by unfold amtR; rw [e1]; rfl
      rw [e1, e2]
      have hs := St.refl hg
      have Hr := Lib.hid hr
      have KT := rTotal_any (A := A) (c := c) hn hl
      have KC := rchkI a ha
      rw [he] at KT
      have q : (chk a != 0) = true := by simpa using hk
      unfold FR at KT
      generalize frN (totQ l) = tn at *
      generalize frD (totQ l) = td at *
      generalize chk a = ca at *
      clear hn hl hf he hk hr e1 e2 ha
      go_enter Tryz.func55, Tryz.ntmps55
      go_wp2_with fail
      refine KT.step hs Hr.out ?_
      intro w1 hs hb1
      go_wp2_with fail
      replace hs := hs.alloc (.cells #[.string tn, .string td] 42)
      refine KC.step hs ?_
      intro w2 hs hb2
      go_wp2_with fail
      go_ret2
      exact ⟨_, rfl, ⟨rfl, World.ownsRow_nil _ _ _ _⟩, hs.2⟩
  · have e1 : amtE l a = totE l := if_pos he
    have e2 : amtR l a = [] := by unfold amtR; rw [e1, if_neg he]
    rw [e1, e2]
    have hs := St.refl hg
    have Hr := Lib.hid hr
    have KT := rTotal_any (A := A) (c := c) hn hl
    have q : (totE l != 0) = true := by simpa using he
    unfold FR at KT
    generalize frN (totQ l) = tn at *
    generalize frD (totQ l) = td at *
    generalize totE l = ca at *
    clear hn hl he hr e1 e2 ha
    go_enter Tryz.func55, Tryz.ntmps55
    go_wp2_with fail
    refine KT.step hs Hr.out ?_
    intro w1 hs hb1
    go_wp2_with fail
    replace hs := hs.alloc (.cells #[.string tn, .string td] 42)
    go_ret2
    exact ⟨_, rfl, ⟨rfl, World.ownsRow_nil _ _ _ _⟩, hs.2⟩
end Go.Proofs.YtndkglmokhndnaaGreatDoor
