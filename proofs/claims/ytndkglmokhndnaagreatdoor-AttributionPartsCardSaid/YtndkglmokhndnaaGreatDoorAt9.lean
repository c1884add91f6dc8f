/- Attribution: the contract of Amounts. Conditions: up to five parts with numbers of bounded length, or more than 32. -/
import Derived.Test.YtndkglmokhndnaaGreatDoorAmt
import Derived.Deep.RegionHeld3
namespace Go.Proofs.YtndkglmokhndnaaGreatDoor
open Go.RowKit Go.Shelf Dec QQ

theorem infoI30 : (Tryz.prog.info? 30).map (fun i => (i.zero, i.size, i.bytes)) = some (some (.string ⟨#[]⟩), 1, 16) := by kernel_rfl
/-- a block that a region has laid over the world W3 -/
structure Pk (W3 W : World) (bz : Nat) (cs : Array Value) : Prop where
  low : Below W3.heap.size W3 W
  z : Bx W bz cs
  ge : W3.heap.size ≤ bz
theorem pk_on {W3 W W' : World} {bz : Nat} {cs : Array Value} (h : Pk W3 W bz cs) (hb : Below W.heap.size W W') : Pk W3 W' bz cs := ⟨h.low.trans (hb.mono h.low.size), h.z.on hb, h.ge⟩
theorem pk_new {W3 W : World} (h : Below W3.heap.size W3 W) : Pk W3 (W.alloc (.cells #[.string ⟨#[]⟩, .string ⟨#[]⟩] 42)) W.heap.size #[.string ⟨#[]⟩, .string ⟨#[]⟩] := ⟨h.alloc h.size _, Bx.new _ _ _, h.size⟩
theorem pk_drew {W3 W : World} {bz : Nat} {cs : Array Value} (h : Pk W3 W bz cs) : Pk W3 W.drew bz cs := ⟨h.low.drew, h.z.drew, h.ge⟩
theorem pk_alloc {W3 W : World} {n d : ByteArray} (h : Below W3.heap.size W3 W) : Pk W3 (W.alloc (.cells #[.string n, .string d] 42)) W.heap.size #[.string n, .string d] := ⟨h.alloc h.size _, Bx.new _ _ _, h.size⟩
theorem pk_set {W3 W : World} {bz : Nat} (h : Pk W3 W bz #[.string ⟨#[]⟩, .string ⟨#[]⟩]) (n d : ByteArray) : Pk W3 ((W.setCell ⟨bz, 0, none⟩ (.string n)).setCell ⟨bz, 1, none⟩ (.string d)) bz #[.string n, .string d] := ⟨(h.low.setCell (p := ⟨bz, 0, none⟩) h.ge _).setCell (p := ⟨bz, 1, none⟩) h.ge _, (h.z.set 0 (.string n)).set 1 (.string d), h.ge⟩
set_option maxRecDepth 100000 in
set_option maxHeartbeats 4000000 in
theorem amounts_few {A : Option Addr} {n c k0 : Nat} {l : List PrtS} {a : ByteArray} (hn : l.length = n) (hl : FewP k0 l) (ha : a.size ≤ 1000) (he : totE l = 0) (hk : chk a = 0) (h0 : totQ l ≠ 0) (w : World) (hg : Gl w) (hr : Row w A (flatG pcells l)) :
    Calls Tryz.prog 41 #[.slice A n c, .string a] w fun e w' => ∃ v, e = .returned (.tuple #[v, .int .i64 0]) ∧ OutG icells 30 1 w.heap.size w' v n (amtsL (totQ l) (valS a) l n) ∧ Below w.heap.size w w' := by
  have hs := St.refl hg
  have h5 := hl.1
  have hk3 := hl.2.1
  have KT := Total_any (A := A) (c := c) hn (.inr hl)
  rw [he] at KT
  have KC := ChkR (a := a) (by omega)
  rw [hk] at KC
  have VT : Hid (Vq (frN (totQ l)) (frD (totQ l)) (totQ l) ∧ totQ l ≠ 0 ∧ FitQ (5 * (3 * k0 + 3) + 1) (totQ l)) := by
    have hq : FitQ (5 * (3 * k0 + 3) + 1) (totQ l) := by
      have := hl.sum l.length
      rwa [List.take_of_length_le (Nat.le_refl _), ← totQ_ok he] at this
    exact ⟨Vq.fr hq (by omega), h0, hq⟩
  have qz : ((frN (totQ l)).toList == (⟨#[]⟩ : ByteArray).toList && (frD (totQ l)).toList == (⟨#[]⟩ : ByteArray).toList) = false := by
    rw [Bool.and_eq_false_iff]
    refine Decidable.byContradiction fun h => h0 ?_
    rw [not_or] at h
    have e1 := eq_of_beq (by simpa using h.1 : ((frN (totQ l)).toList == (⟨#[]⟩ : ByteArray).toList) = true)
    have e2 := eq_of_beq (by simpa using h.2 : ((frD (totQ l)).toList == (⟨#[]⟩ : ByteArray).toList) = true)
    have := ratV_fr (totQ l)
    rw [toList_inj e1, toList_inj e2] at this
    exact this.symm.trans zeroP_q.1
  have eqz := eqlF (frN (totQ l)) (frD (totQ l)) ⟨#[]⟩ ⟨#[]⟩
  rw [qz] at eqz
  unfold FR at KT
  have HT : Hid (∀ k, amtL (totQ l) (valS a) l k = ((valS a : Int) * sumQ PrtS.all (l.take k) / totQ l).floor) := fun k => rfl
  clear qz
  generalize totQ l = T at *
  generalize frN T = tn at *
  generalize frD T = td at *
  have HN := Lib.hid hn
  have HL := Lib.hid hl
  have HR := Lib.hid hr
  have HA := Lib.hid ha
  clear hn hl hr he hk h0 ha
  clear h5
  have h5n : n ≤ 5 := by have := HL.out.1; have := HN.out; omega
  go_enter Tryz.func41, Tryz.ntmps41
  go_wp2_with fail
  refine KT.step hs HR.out ?_
  intro w1 hs hb1
  go_wp2_with fail
  have XT := Bx.new w1 #[.string tn, .string td] 42
  replace hs := hs.alloc (.cells #[.string tn, .string td] 42)
  refine KC.step hs ?_
  intro w2 hs hb2
  replace XT := XT.on hb2
  have y0 := XT.cell (i := 0) (v := .string tn) rfl
  have y1 := XT.cell (i := 1) (v := .string td) rfl
  go_wp2_with fail
  have hlt1 := XT.lt
  have XPt := Bx.new w2 #[.string ⟨#[]⟩, .string ⟨#[]⟩] 42
  replace hs := hs.alloc (.cells #[.string ⟨#[]⟩, .string ⟨#[]⟩] 42)
  replace XT := XT.alloc (.cells #[.string ⟨#[]⟩, .string ⟨#[]⟩] 42)
  have HXT := Lib.hid XT
  have HXP : Hid (Bx (w2.alloc (.cells #[.string ⟨#[]⟩, .string ⟨#[]⟩] 42)) w2.heap.size #[.string (frN (sumQ PrtS.all (l.take 0))), .string (frD (sumQ PrtS.all (l.take 0)))]) := by
    show Bx _ _ _
    rw [List.take_zero, show sumQ PrtS.all [] = 0 from rfl, frN_zero, frD_zero]
    exact XPt
  have HOW : Hid (World.ownsRow (w2.alloc (.cells #[.string ⟨#[]⟩, .string ⟨#[]⟩] 42)) (w2.heap.size + 1) 30 1 (.slice none 0 0) 0 (flatG icells (amtsL T (valS a) l 0))) := World.ownsRow_nil _ _ _ _
  have hz0 : canS (amtL T (valS a) l 0) = ⟨#[]⟩ := by rw [amt_start]; exact frN_zero
  have HZ0 := Lib.hid hz0
  have hwb : w.heap.size ≤ w1.heap.size := hb1.size
  clear XT XPt y0 y1 hz0 hb1 hb2
  go_wp2_with fail
  go_loopw [32, 10, 8] (fun s b v wr => ∃ k : Nat, k ≤ n ∧ s = .int .i64 (k : Int) ∧ b = .string (canS (amtL T (valS a) l k)) ∧ St w wr ∧ Hid (Bx wr w1.heap.size #[.string tn, .string td]) ∧ Hid (Bx wr w2.heap.size #[.string (frN (sumQ PrtS.all (l.take k))), .string (frD (sumQ PrtS.all (l.take k)))]) ∧ Hid (wr.ownsRow (w2.heap.size + 1) 30 1 v k (flatG icells (amtsL T (valS a) l k)))) (fun s _ _ _ => (n - intOf s).toNat)
  case atStart => exact ⟨0, by omega, rfl, by rw [HZ0.out], hs, HXT, HXP, HOW⟩
  case round =>
    obtain ⟨k, hk, rfl, rfl, hs, HX1, HX2, HO⟩ := hrel
    by_cases hkn : k = n
    · subst hkn
      have q : decide ((k : Int) < (k : Int)) = false := decide_eq_false (by omega)
      go_wp2_with fail
      go_ret2
      exact ⟨_, rfl, ⟨amtsL_len _ _ _ _, own_low HO.out (by omega)⟩, hs.2⟩
    · have hkl : k < n := by omega
      have q : decide ((k : Int) < (n : Int)) = true := decide_eq_true (by omega)
      have qn : decide (k < n) = true := decide_eq_true hkl
      obtain ⟨d, hd⟩ : ∃ d, l[k]? = some d := ⟨l[k]'(by rw [HN.out]; exact hkl), by simp⟩
      obtain ⟨b, o, hA, hb, hcells⟩ := row_at (cs := pcells) (m := 7) pcells_len (by decide) (HR.out.on hs.2) hd
      have hdz := HL.out.2.2.2 d (List.mem_of_getElem? hd)
      have KAll := pall_any d (hdz.mono (by omega))
      have KAdd := AddF (Vq.fr (HL.out.sum k) (by omega)) (Vq.fr (HL.out.fit (List.mem_of_getElem? hd)) (by omega))
      rw [← sumQ_take hd] at KAdd
      have fa := HL.out.amt (a := a) (m := 1000) HA.out (by omega) VT.out.2.2 (k + 1)
      have fa0 := HL.out.amt (a := a) (m := 1000) HA.out (by omega) VT.out.2.2 k
      have KOf := OfF (a := a) (Vs.arg (by have := HA.out; omega)) (by have := HA.out; omega)
      have KMul := MulF (Vq.fr fa.1 (by omega)) (Vq.fr (HL.out.sum (k + 1)) (by omega))
      have KQuo := QuoF (Vq.fr fa.2.1 (by omega)) VT.out.1 VT.out.2.1
      have KFl := FloorF (Vq.fr fa.2.2 (by omega))
      rw [← HT.out] at KFl
      have ff1 := floor_fit fa.2.2
      have ff0 := floor_fit fa0.2.2
      rw [← HT.out] at ff1 ff0
      have KSub := SubR (Vs.can ff1 (by omega)) (Vs.can ff0 (by omega))
      have HSU := Lib.hid (amtsL_succ T (valS a) l k)
      subst hA
      unfold FR at KAll KAdd KOf KMul KQuo
      unfold FV at KAdd KMul KQuo KFl
      have BX1 := HX1.out
      have BX2 := HX2.out
      have hfl : ∀ x : Int, flatG icells (amtsL T (valS a) l k ++ [x]) = flatG icells (amtsL T (valS a) l k) ++ [.string (canS x)] := fun x => flatG_snoc _ _
      have HFL := Lib.hid (hfl (amtL T (valS a) l (k + 1) - amtL T (valS a) l k))
      rw [← HSU.out] at HFL
      clear hfl hd hkn hdz fa fa0 ff1 ff0 HSU
      obtain ⟨sn, hsn⟩ : ∃ x, frN (sumQ PrtS.all (l.take (k + 1))) = x := ⟨_, rfl⟩
      obtain ⟨sd, hsd⟩ : ∃ x, frD (sumQ PrtS.all (l.take (k + 1))) = x := ⟨_, rfl⟩
      have HSN := Lib.hid hsn
      have HSD := Lib.hid hsd
      rw [hsn, hsd] at KAdd KMul
      clear hsn hsd
      generalize frN (sumQ PrtS.all (l.take k)) = bn at *
      generalize frD (sumQ PrtS.all (l.take k)) = bd at *
      generalize frN d.all = gn at *
      generalize frD d.all = gd at *
      generalize frN ((valS a : Int) : Rat) = on at *
      generalize frD ((valS a : Int) : Rat) = od at *
      generalize frN ((valS a : Int) * sumQ PrtS.all (l.take (k + 1))) = mn at *
      generalize frD ((valS a : Int) * sumQ PrtS.all (l.take (k + 1))) = md at *
      generalize frN ((valS a : Int) * sumQ PrtS.all (l.take (k + 1)) / T) = qn1 at *
      generalize frD ((valS a : Int) * sumQ PrtS.all (l.take (k + 1)) / T) = qd1 at *
      obtain ⟨z1, hz1⟩ : ∃ x, canS (amtL T (valS a) l (k + 1)) = x := ⟨_, rfl⟩
      have HZ1 := Lib.hid hz1
      rw [hz1] at KFl KSub
      clear hz1
      generalize canS (amtL T (valS a) l k) = z0 at *
      generalize canS (amtL T (valS a) l (k + 1) - amtL T (valS a) l k) = zd at *
      obtain ⟨f0, f1, f2, f3, f4, f5, f6⟩ := d
      have x0 : wr.cell? ⟨b, o + k * 7, none⟩ = some (.string f0) := hcells 0 _ rfl
      have x1 : wr.cell? ⟨b, o + k * 7 + 1, none⟩ = some (.string f1) := hcells 1 _ rfl
      have x2 : wr.cell? ⟨b, o + k * 7 + 2, none⟩ = some (.string f2) := hcells 2 _ rfl
      have x3 : wr.cell? ⟨b, o + k * 7 + 3, none⟩ = some (.string f3) := hcells 3 _ rfl
      have x4 : wr.cell? ⟨b, o + k * 7 + 4, none⟩ = some (.string f4) := hcells 4 _ rfl
      have x5 : wr.cell? ⟨b, o + k * 7 + 5, none⟩ = some (.string f5) := hcells 5 _ rfl
      have x6 : wr.cell? ⟨b, o + k * 7 + 6, none⟩ = some (.string f6) := hcells 6 _ rfl
      clear hcells
      dsimp only [prtV] at KAll
      have hs1 := hs.alloc (.cells #[.string f0, .string f1, .string f2, .string f3, .string f4, .string f5, .string f6] 52)
      have BD := Bx.new wr #[.string f0, .string f1, .string f2, .string f3, .string f4, .string f5, .string f6] 52
      have hlt2 := BX2.lt
      have hlt3 := BX1.lt
      replace BX1 := BX1.alloc (.cells #[.string f0, .string f1, .string f2, .string f3, .string f4, .string f5, .string f6] 52)
      replace BX2 := BX2.alloc (.cells #[.string f0, .string f1, .string f2, .string f3, .string f4, .string f5, .string f6] 52)
      have HO1 := Lib.hid (World.ownsRow.alloc HO.out (.cells #[.string f0, .string f1, .string f2, .string f3, .string f4, .string f5, .string f6] 52))
      have hsz := World.size_alloc wr (.cells #[.string f0, .string f1, .string f2, .string f3, .string f4, .string f5, .string f6] 52)
      generalize hW0 : wr.alloc (.cells #[.string f0, .string f1, .string f2, .string f3, .string f4, .string f5, .string f6] 52) = W0 at *
      have HW0 := Lib.hid hW0
      clear hW0
      have k0 := BD.keeps (i := 0) (v := .string f0) rfl
      have k1 := BD.keeps (i := 1) (v := .string f1) rfl
      have k2 := BD.keeps (i := 2) (v := .string f2) rfl
      have k3 := BD.keeps (i := 3) (v := .string f3) rfl
      have k4 := BD.keeps (i := 4) (v := .string f4) rfl
      have k5 := BD.keeps (i := 5) (v := .string f5) rfl
      have k6 := BD.keeps (i := 6) (v := .string f6) rfl
      have k7 := BX2.keeps (i := 0) (v := .string bn) rfl
      have k8 := BX2.keeps (i := 1) (v := .string bd) rfl
      go_wp2_with fail
      rw [HW0.out]
      refine wp_region_kept_tail 4 (by kernel_rfl) (by kernel_rfl) ?_
      simp only [List.take_succ_cons, List.take_zero, List.drop_succ_cons, List.drop_zero]
      repeat (go_big_quiet_step (first | (with_reducible exact KAll.kept hs1) | (with_reducible exact KAdd.kept hs1)))
      refine wpQuiet_nil ?_
      rintro _ ⟨u, rfl⟩
      have BU := BX2.kept u
      have BT := BX1.kept u
      have u0 := BU.cell (i := 0) (v := .string bn) rfl
      have u1 := BU.cell (i := 1) (v := .string bd) rfl
      have v0 := BU.frozen 0
      have v1 := BU.frozen 1
      go_wp2_with fail
      have hsX := (((hs1.kept u).set (b := w2.heap.size) (by omega) 0 (.string sn)).set (b := w2.heap.size) (by omega) 1 (.string sd))
      have X6 := (BU.set 0 (.string sn)).set 1 (.string sd)
      have X9 := (BT.other (c := w2.heap.size) (by omega) 0 (.string sn)).other (c := w2.heap.size) (by omega) 1 (.string sd)
      have HO3 := Lib.hid (own_set (own_set (own_below HO1.out u.low) (c := w2.heap.size) (by omega) 0 (.string sn)) (c := w2.heap.size) (by omega) 1 (.string sd))
      clear u0 u1 v0 v1 k7 k8 BU BT BX1 BX2 BD HX1 HX2 HO1 HO hs hs1 KAll KAdd
      generalize (u.W.setCell ⟨w2.heap.size, 0, none⟩ (.string sn)).setCell ⟨w2.heap.size, 1, none⟩ (.string sd) = W3 at *
      replace X6 : Bx W3 w2.heap.size #[.string sn, .string sd] := X6
      replace X9 : Bx W3 w1.heap.size #[.string tn, .string td] := X9
      have lt6 := X6.lt
      have lt9 := X9.lt
      have e3 : W3.drew.heap.size = W3.heap.size := rfl
      have low0 : Below W3.heap.size W3 W3 := Below.refl _ _
      have x0 := X6.cell (i := 0) (v := .string sn) rfl
      have x1 := X6.cell (i := 1) (v := .string sd) rfl
      have x2 := X9.cell (i := 0) (v := .string tn) rfl
      have x3 := X9.cell (i := 1) (v := .string td) rfl
      go_region_held3 (fun w' => w'.cell? ⟨w2.heap.size, 0, none⟩ = some (.string sn) ∧ w'.cell? ⟨w2.heap.size, 1, none⟩ = some (.string sd) ∧ w'.cell? ⟨w1.heap.size, 0, none⟩ = some (.string tn) ∧ w'.cell? ⟨w1.heap.size, 1, none⟩ = some (.string td))
        (first
          | (with_reducible exact ⟨c0, c1, c2, c3⟩)
          | (with_reducible exact ⟨b0, b1, b2, b3⟩)
          | (with_reducible exact ⟨a0, a1, a2, a3⟩)
          | (with_reducible exact ⟨x0, x1, x2, x3⟩)
          | exact ⟨(C6.alloc _).cell (i := 0) (v := .string sn) rfl, (C6.alloc _).cell (i := 1) (v := .string sd) rfl, (C9.alloc _).cell (i := 0) (v := .string tn) rfl, (C9.alloc _).cell (i := 1) (v := .string td) rfl⟩
          | exact ⟨(B6.alloc _).cell (i := 0) (v := .string sn) rfl, (B6.alloc _).cell (i := 1) (v := .string sd) rfl, (B9.alloc _).cell (i := 0) (v := .string tn) rfl, (B9.alloc _).cell (i := 1) (v := .string td) rfl⟩
          | exact ⟨(A6.alloc _).cell (i := 0) (v := .string sn) rfl, (A6.alloc _).cell (i := 1) (v := .string sd) rfl, (A9.alloc _).cell (i := 0) (v := .string tn) rfl, (A9.alloc _).cell (i := 1) (v := .string td) rfl⟩
          | exact ⟨(X6.drew.alloc _).cell (i := 0) (v := .string sn) rfl, (X6.drew.alloc _).cell (i := 1) (v := .string sd) rfl, (X9.drew.alloc _).cell (i := 0) (v := .string tn) rfl, (X9.drew.alloc _).cell (i := 1) (v := .string td) rfl⟩
          | exact ⟨(X6.alloc _).cell (i := 0) (v := .string sn) rfl, (X6.alloc _).cell (i := 1) (v := .string sd) rfl, (X9.alloc _).cell (i := 0) (v := .string tn) rfl, (X9.alloc _).cell (i := 1) (v := .string td) rfl⟩
          | exact ⟨((C6.other (by omega) 0 (.string qn1)).other (by omega) 1 (.string qd1)).cell (i := 0) (v := .string sn) rfl, ((C6.other (by omega) 0 (.string qn1)).other (by omega) 1 (.string qd1)).cell (i := 1) (v := .string sd) rfl, ((C9.other (by omega) 0 (.string qn1)).other (by omega) 1 (.string qd1)).cell (i := 0) (v := .string tn) rfl, ((C9.other (by omega) 0 (.string qn1)).other (by omega) 1 (.string qd1)).cell (i := 1) (v := .string td) rfl⟩
          | exact ⟨(((C6.alloc _).other (by omega) 0 (.string qn1)).other (by omega) 1 (.string qd1)).cell (i := 0) (v := .string sn) rfl, (((C6.alloc _).other (by omega) 0 (.string qn1)).other (by omega) 1 (.string qd1)).cell (i := 1) (v := .string sd) rfl, (((C9.alloc _).other (by omega) 0 (.string qn1)).other (by omega) 1 (.string qd1)).cell (i := 0) (v := .string tn) rfl, (((C9.alloc _).other (by omega) 0 (.string qn1)).other (by omega) 1 (.string qd1)).cell (i := 1) (v := .string td) rfl⟩
          | exact ⟨(X6.alloc _).drew.cell (i := 0) (v := .string sn) rfl, (X6.alloc _).drew.cell (i := 1) (v := .string sd) rfl, (X9.alloc _).drew.cell (i := 0) (v := .string tn) rfl, (X9.alloc _).drew.cell (i := 1) (v := .string td) rfl⟩
          | (go_keep; done))
        (first
          | (go_at_call 32
             refine KOf.step (by first | with_reducible exact hsX.drew | with_reducible exact hsX | with_reducible exact (hsX.alloc _).drew | with_reducible exact hsX.alloc _) ?_
             intro wA hsA hbA
             have A6 : Bx wA w2.heap.size #[.string sn, .string sd] := (by first | with_reducible exact X6.drew.on hbA | with_reducible exact X6.on hbA | with_reducible exact (X6.alloc _).drew.on hbA | with_reducible exact (X6.alloc _).on hbA)
             have A9 : Bx wA w1.heap.size #[.string tn, .string td] := (by first | with_reducible exact X9.drew.on hbA | with_reducible exact X9.on hbA | with_reducible exact (X9.alloc _).drew.on hbA | with_reducible exact (X9.alloc _).on hbA)
             have lowA : Below W3.heap.size W3 wA := (by first | with_reducible exact low0.trans (hbA.mono low0.size) | exact low0.drew.trans (hbA.mono low0.drew.size) | exact (low0.alloc low0.size _).trans (hbA.mono (by rw [World.size_alloc]; have := low0.size; omega)) | exact (low0.alloc low0.size _).drew.trans (hbA.mono (by show _ ≤ (World.alloc _ _).heap.size; rw [World.size_alloc]; have := low0.size; omega)))
             have a0 := A6.cell (i := 0) (v := .string sn) rfl
             have a1 := A6.cell (i := 1) (v := .string sd) rfl
             have a2 := A9.cell (i := 0) (v := .string tn) rfl
             have a3 := A9.cell (i := 1) (v := .string td) rfl
             have AL := A6.lt
             have AM := A9.lt
             (first | have ZZ := pk_on ZZ hbA | have ZZ := pk_on (pk_new low0) hbA | have ZZ := pk_on (pk_drew (pk_new low0)) hbA | skip)
             (try have zz0 := ZZ.z.cell (i := 0) (v := .string ⟨#[]⟩) rfl)
             (try have zz1 := ZZ.z.cell (i := 1) (v := .string ⟨#[]⟩) rfl)
             (try have zf0 := ZZ.z.frozen 0)
             (try have zf1 := ZZ.z.frozen 1))
          | (go_at_call 33
             refine KMul.step (by first | with_reducible exact hsA.drew | with_reducible exact hsA | with_reducible exact (hsA.alloc _).drew | with_reducible exact hsA.alloc _) ?_
             intro wB hsB hbB
             have B6 : Bx wB w2.heap.size #[.string sn, .string sd] := (by first | with_reducible exact A6.drew.on hbB | with_reducible exact A6.on hbB | with_reducible exact (A6.alloc _).drew.on hbB | with_reducible exact (A6.alloc _).on hbB)
             have B9 : Bx wB w1.heap.size #[.string tn, .string td] := (by first | with_reducible exact A9.drew.on hbB | with_reducible exact A9.on hbB | with_reducible exact (A9.alloc _).drew.on hbB | with_reducible exact (A9.alloc _).on hbB)
             have lowB : Below W3.heap.size W3 wB := (by first | with_reducible exact lowA.trans (hbB.mono lowA.size) | exact lowA.drew.trans (hbB.mono lowA.drew.size) | exact (lowA.alloc lowA.size _).trans (hbB.mono (by rw [World.size_alloc]; have := lowA.size; omega)) | exact (lowA.alloc lowA.size _).drew.trans (hbB.mono (by show _ ≤ (World.alloc _ _).heap.size; rw [World.size_alloc]; have := lowA.size; omega)))
             have b0 := B6.cell (i := 0) (v := .string sn) rfl
             have b1 := B6.cell (i := 1) (v := .string sd) rfl
             have b2 := B9.cell (i := 0) (v := .string tn) rfl
             have b3 := B9.cell (i := 1) (v := .string td) rfl
             have BL := B6.lt
             have BM := B9.lt
             (first | have ZZ := pk_on ZZ hbB | have ZZ := pk_on (pk_new lowA) hbB | have ZZ := pk_on (pk_drew (pk_new lowA)) hbB | skip)
             (try have zz0 := ZZ.z.cell (i := 0) (v := .string ⟨#[]⟩) rfl)
             (try have zz1 := ZZ.z.cell (i := 1) (v := .string ⟨#[]⟩) rfl)
             (try have zf0 := ZZ.z.frozen 0)
             (try have zf1 := ZZ.z.frozen 1))
          | (go_at_call 42
             refine KQuo.step (by first | with_reducible exact hsB.drew | with_reducible exact hsB | with_reducible exact (hsB.alloc _).drew | with_reducible exact hsB.alloc _) ?_
             intro wC hsC hbC
             have C6 : Bx wC w2.heap.size #[.string sn, .string sd] := (by first | with_reducible exact B6.drew.on hbC | with_reducible exact B6.on hbC | with_reducible exact (B6.alloc _).drew.on hbC | with_reducible exact (B6.alloc _).on hbC)
             have C9 : Bx wC w1.heap.size #[.string tn, .string td] := (by first | with_reducible exact B9.drew.on hbC | with_reducible exact B9.on hbC | with_reducible exact (B9.alloc _).drew.on hbC | with_reducible exact (B9.alloc _).on hbC)
             have lowC : Below W3.heap.size W3 wC := (by first | with_reducible exact lowB.trans (hbC.mono lowB.size) | exact lowB.drew.trans (hbC.mono lowB.drew.size) | exact (lowB.alloc lowB.size _).trans (hbC.mono (by rw [World.size_alloc]; have := lowB.size; omega)) | exact (lowB.alloc lowB.size _).drew.trans (hbC.mono (by show _ ≤ (World.alloc _ _).heap.size; rw [World.size_alloc]; have := lowB.size; omega)))
             have c0 := C6.cell (i := 0) (v := .string sn) rfl
             have c1 := C6.cell (i := 1) (v := .string sd) rfl
             have c2 := C9.cell (i := 0) (v := .string tn) rfl
             have c3 := C9.cell (i := 1) (v := .string td) rfl
             have CL := C6.lt
             have CM := C9.lt
             (first | have ZZ := pk_on ZZ hbC | have ZZ := pk_on (pk_new lowB) hbC | have ZZ := pk_on (pk_drew (pk_new lowB)) hbC | skip)
             (try have zz0 := ZZ.z.cell (i := 0) (v := .string ⟨#[]⟩) rfl)
             (try have zz1 := ZZ.z.cell (i := 1) (v := .string ⟨#[]⟩) rfl)
             (try have zf0 := ZZ.z.frozen 0)
             (try have zf1 := ZZ.z.frozen 1))
)
      all_goals
        first
          | (have P := pk_set (bz := wB.heap.size) ZZ qn1 qd1; generalize (wC.setCell ⟨wB.heap.size, 0, none⟩ (.string qn1)).setCell ⟨wB.heap.size, 1, none⟩ (.string qd1) = W4 at P ⊢; generalize wB.heap.size = bz at P ⊢)
          | (have P := pk_set (bz := wA.heap.size) ZZ qn1 qd1; generalize (wC.setCell ⟨wA.heap.size, 0, none⟩ (.string qn1)).setCell ⟨wA.heap.size, 1, none⟩ (.string qd1) = W4 at P ⊢; generalize wA.heap.size = bz at P ⊢)
          | (have P := pk_set (bz := W3.heap.size) ZZ qn1 qd1; generalize (wC.setCell ⟨W3.heap.size, 0, none⟩ (.string qn1)).setCell ⟨W3.heap.size, 1, none⟩ (.string qd1) = W4 at P ⊢; generalize W3.heap.size = bz at P ⊢)
          | (have P := pk_alloc (n := qn1) (d := qd1) lowC; generalize wC.alloc (.cells #[.string qn1, .string qd1] 42) = W4 at P ⊢; generalize wC.heap.size = bz at P ⊢)
      all_goals
        have hs4 := hsX.on P.low
        have HO4 := Lib.hid (own_below HO3.out P.low)
        have H9 := Lib.hid (X9.on P.low)
        have H6 := Lib.hid (X6.on P.low)
        have Z := P.z
        have hge := P.ge
        have hnz : ∀ g, u8.ownBlock = some g → w2.heap.size + 1 ≤ g ∧ g < W3.heap.size := fun g hg => HO3.out.lt g hg
        have HNZ := Lib.hid hnz
        have z0' := Z.cell (i := 0) (v := .string qn1) rfl
        have z1' := Z.cell (i := 1) (v := .string qd1) rfl
        clear hnz P low0 lowA lowB lowC A6 A9 B6 B9 C6 C9 X6 X9 hbA hbB hbC hsA hsB hsC hsX HO3 x0 x1 x2 x3 a0 a1 a2 a3 b0 b1 b2 b3 c0 c1 c2 c3 AL AM BL BM CL CM KOf KMul KQuo
        (try clear ZZ zz0 zz1 zf0 zf1)
        go_wp2_with fail
        refine KFl.step hs4 ?_
        intro w5 hs hb5
        have Z5 := Z.on hb5
        have HO5 := Lib.hid (own_below HO4.out hb5)
        have H95 := Lib.hid (H9.out.on hb5)
        have H65 := Lib.hid (H6.out.on hb5)
        clear z0' z1' Z HO4 H9 H6 hb5
        go_wp2_with fail
        refine KSub.step hs ?_
        intro w6 hs hb6
        have Z6 := Z5.on hb6
        have HO6 := Lib.hid (own_below HO5.out hb6)
        have H96 := Lib.hid (H95.out.on hb6)
        have H66 := Lib.hid (H65.out.on hb6)
        have hsz6 := hs.2.size
        have hlt6 : w2.heap.size < w6.heap.size := H66.out.lt
        obtain ⟨i0, hi, hz0, hz1, hz2⟩ := info_parts infoI30
        have Hi := Lib.hid hi
        have Hz0 := Lib.hid hz0
        have Hz1 := Lib.hid hz1
        have Hz2 := Lib.hid hz2
        clear hi hz0 hz1 hz2 Z5 HO5 H95 H65 hb6
        go_wp2_with (at_builtin; refine wpList_append_any _ rfl (.tmp 49) (.tmp 54) 65 rfl (w2.heap.size + 1) 30 i0 (.string ⟨#[]⟩) 1 16 (by kernel_rfl) Hi.out Hz0.out Hz1.out Hz2.out rfl (by omega) _ k (flatG icells (amtsL T (valS a) l k)) rfl (HO6.out.alloc _) (w6.heap.size + 1) (some ⟨w6.heap.size, 0, none⟩) 1 1 [.string zd] rfl (reads_row w6 30 [.string zd]) (by intro u hu; simp at hu; subst hu; rfl) (by unfold maxLen; omega) (by omega) (by simp; omega) ?_; intro v7 w7 hown7 hg7 _; have HO7 := Lib.hid hown7; have HG7 := Lib.hid hg7; have Z7 := (Z6.alloc _).grown hg7 (fun e => by have := (HNZ.out _ e.symm).2; omega); have z70 := Z7.cell (i := 0) (v := .string qn1) rfl; have z71 := Z7.cell (i := 1) (v := .string qd1) rfl; clear hown7 hg7)
        have hs7 : St w w7 := ⟨hs.1, (hs.2.alloc hsz6 _).grown HG7.out (by simp; omega) (fun g hg => by have := (HNZ.out g hg).1; omega)⟩
        refine KFl.step hs7 ?_
        intro w8 hs8 hb8
        go_wp2_with fail
        go_roundw
        case rel =>
          refine ⟨k + 1, by omega, by go_num, by rw [HZ1.out], hs8, ?_, ?_, ?_⟩
          · exact ((H96.out.alloc _).grown HG7.out (fun e => by have := (HNZ.out _ e.symm).1; omega)).on hb8
          · show Bx _ _ _
            rw [HSN.out, HSD.out]
            exact ((H66.out.alloc _).grown HG7.out (fun e => by have := (HNZ.out _ e.symm).1; omega)).on hb8
          · show World.ownsRow _ _ _ _ _ _ _
            rw [HFL.out]
            exact own_below HO7.out hb8
        case measure => simp [intOf]; omega
end Go.Proofs.YtndkglmokhndnaaGreatDoor
