/- Attribution: names of sectors, sums and multiples of parts; slices.Equal of strings. Conditions: numbers of bounded length. -/
import Derived.Test.YticfdeaphiifeaaGreatDoorAl
import Derived.Test.YticfdeaphiifeaaGreatDoorAt3
set_option maxHeartbeats 4000000
set_option maxRecDepth 100000
namespace Go.Proofs.YticfdeaphiifeaaGreatDoor
open Go.RowKit Go.Shelf Dec QQ
def ncells (s : ByteArray) : List Value := [.string s]
theorem ncells_len (s : ByteArray) : (ncells s).length = 1 := rfl
theorem infoStr : (Tryz.prog.info? 9).map (fun i => (i.zero, i.size, i.bytes)) = some (some (.string ⟨#[]⟩), 1, 16) := by kernel_rfl
theorem namesS_any {A : Option Addr} {n c : Nat} {l : List SecS} (hn : l.length = n) (hm : n ≤ 1000000) (w : World) (hg : Gl w) (hr : Row w A (flatG scells l)) :
  Calls Tryz.prog 40 #[.slice A n c] w fun e w' => ∃ v, e = .returned v ∧ OutG ncells 9 1 w.heap.size w' v n (l.map SecS.nm) ∧ Below w.heap.size w w' := by
 have hs := St.refl hg
 have HN := Lib.hid hn
 have HR := Lib.hid hr
 clear hn hr
 go_enter Tryz.func40, Tryz.ntmps40
 go_wp2_with fail
 go_loopw [8, 3] (fun s v wr => ∃ k : Nat, k ≤ n ∧ s = .int .i64 (k : Int) ∧ St w wr ∧ Hid (wr.ownsRow w.heap.size 9 1 v k (flatG ncells ((l.map SecS.nm).take k)))) (fun s _ _ => (n - intOf s).toNat)
 case atStart => exact ⟨0, by omega, rfl, hs, World.ownsRow_nil _ _ _ _⟩
 case round =>
  obtain ⟨k, hk, rfl, hs, HO⟩ := hrel
  by_cases hkn : k = n
  ·subst hkn
   have q : decide ((k : Int) < (k : Int)) = false := decide_eq_false (by omega)
   have HDT : Hid ((l.map SecS.nm).take k = l.map SecS.nm) := List.take_of_length_le (by rw [List.length_map]; exact Nat.le_of_eq HN.out)
   rw [HDT.out] at HO
   go_wp2_with fail
   go_ret
   exact ⟨_, rfl, ⟨by rw [List.length_map]; exact HN.out, HO.out⟩, hs.2⟩
  ·have hkl : k < n := by omega
   have q : decide ((k : Int) < (n : Int)) = true := decide_eq_true (by omega)
   have qn : decide (k < n) = true := decide_eq_true hkl
   obtain ⟨d, hd⟩ : ∃ d, l[k]? = some d := ⟨l[k]'(by rw [HN.out]; exact hkl), by simp⟩
   obtain ⟨b, o, hA, hb, hcells⟩ := row_at (cs := scells) (m := 9) scells_len (by decide) (HR.out.on hs.2) hd
   subst hA
   have HTK : Hid (flatG ncells ((l.map SecS.nm).take (k + 1)) = flatG ncells ((l.map SecS.nm).take k) ++ [.string d.nm]) := by
    show _ = _
    rw [List.take_add_one, List.getElem?_map, hd]
    exact flatG_snoc _ _
   obtain ⟨i0, hi, hz0, hz1, hz2⟩ := info_parts infoStr
   have Hi := Lib.hid hi
   have Hz0 := Lib.hid hz0
   have Hz1 := Lib.hid hz1
   have Hz2 := Lib.hid hz2
   have hsz := hs.2.size
   have hnz : ∀ g, u3.ownBlock = some g → w.heap.size ≤ g ∧ g < wr.heap.size := fun g hg => HO.out.lt g hg
   have HNZ := Lib.hid hnz
   clear hi hz0 hz1 hz2 hnz hd hkn
   obtain ⟨f0, f1, f2, f3, f4, f5, f6, f7, f8⟩ := d
   have x0 : wr.cell? ⟨b, o + k * 9, none⟩ = some (.string f0) := hcells 0 _ rfl
   have x1 : wr.cell? ⟨b, o + k * 9 + 1, none⟩ = some (.string f1) := hcells 1 _ rfl
   have x2 : wr.cell? ⟨b, o + k * 9 + 2, none⟩ = some (.string f2) := hcells 2 _ rfl
   have x3 : wr.cell? ⟨b, o + k * 9 + 3, none⟩ = some (.string f3) := hcells 3 _ rfl
   have x4 : wr.cell? ⟨b, o + k * 9 + 4, none⟩ = some (.string f4) := hcells 4 _ rfl
   have x5 : wr.cell? ⟨b, o + k * 9 + 5, none⟩ = some (.string f5) := hcells 5 _ rfl
   have x6 : wr.cell? ⟨b, o + k * 9 + 6, none⟩ = some (.string f6) := hcells 6 _ rfl
   have x7 : wr.cell? ⟨b, o + k * 9 + 7, none⟩ = some (.string f7) := hcells 7 _ rfl
   have x8 : wr.cell? ⟨b, o + k * 9 + 8, none⟩ = some (.string f8) := hcells 8 _ rfl
   clear hcells
   dsimp only at HTK
   go_wp2_with (at_builtin; refine wpList_append_any _ rfl (.tmp 12) (.tmp 15) 80 rfl w.heap.size 9 i0 (.string ⟨#[]⟩) 1 16 (by kernel_rfl) Hi.out Hz0.out Hz1.out Hz2.out rfl (by omega) _ k (flatG ncells ((l.map SecS.nm).take k)) rfl ((HO.out.alloc _).alloc _) (wr.heap.size + 1 + 1) (some ⟨wr.heap.size + 1, 0, none⟩) 1 1 [.string f0] rfl (reads_row1 wr _ 9 [.string f0]) (by intro u hu; simp at hu; subst hu; rfl) (by unfold maxLen; omega) (by omega) (by simp; omega) ?_; intro v7 w7 hown7 hg7 _; have HO7 := Lib.hid hown7; have HG7 := Lib.hid hg7; clear hown7 hg7)
   go_roundw
   case rel =>
    refine ⟨k + 1, by omega, by go_num, ⟨hs.1, ((hs.2.alloc hsz _).alloc (by simp; omega) _).grown HG7.out (by simp; omega) (fun g hg => (HNZ.out g hg).1)⟩, ?_⟩
    show World.ownsRow _ _ _ _ _ _ _
    rw [HTK.out]
    exact HO7.out
   case measure => simp [intOf]; omega
theorem equalStr {A A' : Option Addr} {n n' c c' : Nat} {x y : List ByteArray} (hx : x.length = n) (hy : y.length = n') (hn : n ≤ 1000000) (hn' : n' ≤ 1000000) : RetI (fun w => Row w A (x.map sv) ∧ Row w A' (y.map sv)) 39 #[.slice A n c, .slice A' n' c'] (.bool (decide (x = y))) := by
 intro w hg hi
 have hs := St.refl hg
 have HI := Lib.hid hi
 obtain ⟨v, hv⟩ : ∃ v, decide (x = y) = v := ⟨_, rfl⟩
 rw [hv]
 by_cases hne : n = n'
 ·subst hne
  have q0 : ((n : Int) != (n : Int)) = false := by simp
  have HX := Lib.hid hx
  have HY := Lib.hid hy
  have HV : Hid (((∀ i : Nat, i < n → x[i]? = y[i]?) → v = true) ∧ (∀ i : Nat, x[i]? ≠ y[i]? → v = false)) := by
   refine ⟨fun h => ?_, fun i h => ?_⟩
   ·rw [← hv]
    refine decide_eq_true (List.ext_getElem? fun i => ?_)
    by_cases hi : i < n
    ·exact h i hi
    ·rw [List.getElem?_eq_none (by omega), List.getElem?_eq_none (by omega)]
   ·rw [← hv]
    exact decide_eq_false (fun e => h (by rw [e]))
  clear hx hy hv hi
  go_enter Tryz.func39, Tryz.ntmps39
  go_wp2_with fail
  go_loopw [13] (fun s wr => ∃ k : Nat, k ≤ n ∧ s = .int .i64 (k : Int) ∧ St w wr ∧ Hid (∀ i : Nat, i < k → x[i]? = y[i]?)) (fun s _ => (n - intOf s).toNat)
  case atStart => exact ⟨0, by omega, rfl, hs, fun i h => by omega⟩
  case round =>
   obtain ⟨k, hk, rfl, hs, HP⟩ := hrel
   by_cases hkn : k = n
   ·subst hkn
    have q : decide ((k : Int) < (k : Int)) = false := decide_eq_false (by omega)
    have e := HV.out.1 HP.out
    subst e
    go_wp2_with fail
    go_ret
    exact ⟨rfl, hs.2⟩
   ·have hkl : k < n := by omega
    have q : decide ((k : Int) < (n : Int)) = true := decide_eq_true (by omega)
    have qn : decide (k < n) = true := decide_eq_true hkl
    obtain ⟨s, hsx⟩ : ∃ d, x[k]? = some d := ⟨x[k]'(by rw [HX.out]; exact hkl), by simp⟩
    obtain ⟨t, hty⟩ : ∃ d, y[k]? = some d := ⟨y[k]'(by rw [HY.out]; exact hkl), by simp⟩
    obtain ⟨b, o, hA, hb, hc⟩ := (HI.out.1.on hs.2) k (.string s) (by rw [List.getElem?_map, hsx]; rfl)
    obtain ⟨b', o', hA', hb', hc'⟩ := (HI.out.2.on hs.2) k (.string t) (by rw [List.getElem?_map, hty]; rfl)
    subst hA hA'
    have HS := Lib.hid hsx
    have HT := Lib.hid hty
    clear hsx hty hkn
    have kx : ∀ u : Kept wr, u.W.cell? ⟨b, o + k, none⟩ = some (.string s) := fun u => Kept.cell_of hc u
    have ky : ∀ u : Kept wr, u.W.cell? ⟨b', o' + k, none⟩ = some (.string t) := fun u => Kept.cell_of hc' u
    clear hc hc'
    obtain ⟨tb, htb⟩ : ∃ tb, (s.toList == t.toList) = tb := ⟨_, rfl⟩
    have HTB : Hid ((s.toList == t.toList) = tb) := htb
    cases tb with
    | false =>
     have e := HV.out.2 k (by
      rw [HS.out, HT.out]
      intro h
      injection h with h
      have := HTB.out
      rw [h] at this
      simp at this)
     subst e
     go_wp2_with fail
     refine wp_region_kept (by kernel_rfl) (by kernel_rfl) ?_
     repeat (go_big_quiet_step (fail))
     refine wpQuiet_nil ?_
     rintro _ ⟨u, rfl⟩
     go_wp2_with fail
     go_ret
     exact ⟨rfl, (hs.kept u).2⟩
    | true =>
     go_wp2_with fail
     refine wp_region_kept (by kernel_rfl) (by kernel_rfl) ?_
     repeat (go_big_quiet_step (fail))
     refine wpQuiet_nil ?_
     rintro _ ⟨u, rfl⟩
     go_wp2_with fail
     go_roundw
     case rel =>
      refine ⟨k + 1, by omega, by go_num, hs.kept u, fun i hi => ?_⟩
      by_cases e : i = k
      ·subst e
       rw [HS.out, HT.out]
       congr 1
       refine toList_inj ?_
       have := HTB.out
       simpa using this
      ·exact HP.out i (by omega)
     case measure => simp [intOf]; omega
 ·have q0 : ((n : Int) != (n' : Int)) = true := bne_iff_ne.2 (by omega)
  have hvf : v = false := by
   rw [← hv]
   exact decide_eq_false (fun e => hne (by rw [← hx, ← hy, e]))
  subst hvf
  clear hx hy hv hi hne
  go_enter Tryz.func39, Tryz.ntmps39
  go_wp2_with fail
  go_ret
  exact ⟨rfl, hs.2⟩
theorem timesP_any (p : PrtS) (hp : p.le 20000) {fn fd : ByteArray} {f : Rat} (h : Vq fn fd f) : Ret 45 #[prtV p, FV fn fd] (prtV (timesP p f)) := by
 intro w hg
 unfold PrtS.le at hp
 have K1 := MulF (Vq.arg (n := p.an) (d := p.ad) (by omega) (by omega)) h
 have K2 := MulF (Vq.arg (n := p.sn) (d := p.sd) (by omega) (by omega)) h
 have K3 := MulF (Vq.arg (n := p.jn) (d := p.jd) (by omega) (by omega)) h
 change Ret _ _ (FR (p.a * f)) at K1
 change Ret _ _ (FR (p.s * f)) at K2
 change Ret _ _ (FR (p.j * f)) at K3
 have hv : prtV (timesP p f) = .agg #[.string p.nm, .string (frN (p.a * f)), .string (frD (p.a * f)), .string (frN (p.s * f)), .string (frD (p.s * f)), .string (frN (p.j * f)), .string (frD (p.j * f))] := rfl
 rw [hv]
 unfold FR at K1 K2 K3
 unfold FV at K1 K2 K3 ⊢
 clear hp hv h
 generalize frN (p.a * f) = r1 at *
 generalize frD (p.a * f) = r2 at *
 generalize frN (p.s * f) = r3 at *
 generalize frD (p.s * f) = r4 at *
 generalize frN (p.j * f) = r5 at *
 generalize frD (p.j * f) = r6 at *
 obtain ⟨f0, f1, f2, f3, f4, f5, f6⟩ := p
 unfold prtV
 dsimp only at K1 K2 K3 ⊢
 have hs := (((St.refl hg).alloc (.cells #[.string f0, .string f1, .string f2, .string f3, .string f4, .string f5, .string f6] 36)).alloc (.cells #[.string fn, .string fd] 34)).alloc (.cells #[.string ⟨#[]⟩, .string ⟨#[]⟩, .string ⟨#[]⟩, .string ⟨#[]⟩, .string ⟨#[]⟩, .string ⟨#[]⟩, .string ⟨#[]⟩] 36)
 have B0 := ((Bx.new w #[.string f0, .string f1, .string f2, .string f3, .string f4, .string f5, .string f6] 36).alloc (.cells #[.string fn, .string fd] 34)).alloc (.cells #[.string ⟨#[]⟩, .string ⟨#[]⟩, .string ⟨#[]⟩, .string ⟨#[]⟩, .string ⟨#[]⟩, .string ⟨#[]⟩, .string ⟨#[]⟩] 36)
 have B1 := (Bx.new1 w (.cells #[.string f0, .string f1, .string f2, .string f3, .string f4, .string f5, .string f6] 36) #[.string fn, .string fd] 34).alloc (.cells #[.string ⟨#[]⟩, .string ⟨#[]⟩, .string ⟨#[]⟩, .string ⟨#[]⟩, .string ⟨#[]⟩, .string ⟨#[]⟩, .string ⟨#[]⟩] 36)
 have B2 := Bx.new2 w (.cells #[.string f0, .string f1, .string f2, .string f3, .string f4, .string f5, .string f6] 36) (.cells #[.string fn, .string fd] 34) #[.string ⟨#[]⟩, .string ⟨#[]⟩, .string ⟨#[]⟩, .string ⟨#[]⟩, .string ⟨#[]⟩, .string ⟨#[]⟩, .string ⟨#[]⟩] 36
 obtain ⟨W, hW⟩ : ∃ W, ((w.alloc (.cells #[.string f0, .string f1, .string f2, .string f3, .string f4, .string f5, .string f6] 36)).alloc (.cells #[.string fn, .string fd] 34)).alloc (.cells #[.string ⟨#[]⟩, .string ⟨#[]⟩, .string ⟨#[]⟩, .string ⟨#[]⟩, .string ⟨#[]⟩, .string ⟨#[]⟩, .string ⟨#[]⟩] 36) = W := ⟨_, rfl⟩
 rw [hW] at hs B0 B1 B2
 have HW := Lib.hid hW
 clear hW
 have k0 := B0.keeps (i := 0) (v := .string f0) rfl
 have k1 := B0.keeps (i := 1) (v := .string f1) rfl
 have k2 := B0.keeps (i := 2) (v := .string f2) rfl
 have k3 := B0.keeps (i := 3) (v := .string f3) rfl
 have k4 := B0.keeps (i := 4) (v := .string f4) rfl
 have k5 := B0.keeps (i := 5) (v := .string f5) rfl
 have k6 := B0.keeps (i := 6) (v := .string f6) rfl
 have k7 := B1.keeps (i := 0) (v := .string fn) rfl
 have k8 := B1.keeps (i := 1) (v := .string fd) rfl
 go_enter Tryz.func45, Tryz.ntmps45
 go_wp2_with fail
 rw [HW.out]
 refine wp_region_kept_tail 15 (by kernel_rfl) (by kernel_rfl) ?_
 simp only [List.take_succ_cons, List.take_zero, List.drop_succ_cons, List.drop_zero]
 repeat (go_big_quiet_step (first | (with_reducible exact K1.kept hs) | (with_reducible exact K2.kept hs) | (with_reducible exact K3.kept hs)))
 refine wpQuiet_nil ?_
 rintro _ ⟨u, rfl⟩
 replace B2 := B2.kept u
 replace hs := hs.kept u
 clear k0 k1 k2 k3 k4 k5 k6 k7 k8 B0 B1
 generalize u.W = W2 at *
 have c0 := B2.cell (i := 0) (v := .string ⟨#[]⟩) rfl
 have g0 := B2.frozen 0
 have c1 := B2.cell (i := 1) (v := .string ⟨#[]⟩) rfl
 have g1 := B2.frozen 1
 have c2 := B2.cell (i := 2) (v := .string ⟨#[]⟩) rfl
 have g2 := B2.frozen 2
 have c3 := B2.cell (i := 3) (v := .string ⟨#[]⟩) rfl
 have g3 := B2.frozen 3
 have c4 := B2.cell (i := 4) (v := .string ⟨#[]⟩) rfl
 have g4 := B2.frozen 4
 have c5 := B2.cell (i := 5) (v := .string ⟨#[]⟩) rfl
 have g5 := B2.frozen 5
 have c6 := B2.cell (i := 6) (v := .string ⟨#[]⟩) rfl
 have g6 := B2.frozen 6
 go_wp2_with fail
 have Y := ((((((B2.set 0 (.string f0)).set 1 (.string r1)).set 2 (.string r2)).set 3 (.string r3)).set 4 (.string r4)).set 5 (.string r5)).set 6 (.string r6)
 have hbe := ((((((hs.set (b := w.heap.size + 2) (by omega) 0 (.string f0)).set (b := w.heap.size + 2) (by omega) 1 (.string r1)).set (b := w.heap.size + 2) (by omega) 2 (.string r2)).set (b := w.heap.size + 2) (by omega) 3 (.string r3)).set (b := w.heap.size + 2) (by omega) 4 (.string r4)).set (b := w.heap.size + 2) (by omega) 5 (.string r5)).set (b := w.heap.size + 2) (by omega) 6 (.string r6)
 have y0 := Y.cell (i := 0) (v := .string f0) rfl
 have y1 := Y.cell (i := 1) (v := .string r1) rfl
 have y2 := Y.cell (i := 2) (v := .string r2) rfl
 have y3 := Y.cell (i := 3) (v := .string r3) rfl
 have y4 := Y.cell (i := 4) (v := .string r4) rfl
 have y5 := Y.cell (i := 5) (v := .string r5) rfl
 have y6 := Y.cell (i := 6) (v := .string r6) rfl
 exact bodyPost_ret (v := .agg #[.string f0, .string r1, .string r2, .string r3, .string r4, .string r5, .string r6]) (by simp [results, Tryz.results45, go_sem, y0, y1, y2, y3, y4, y5, y6]) rfl ⟨rfl, hbe.2⟩
theorem plusP_any (p q : PrtS) (hp : p.le 20000) (hq : q.le 20000) : Ret 44 #[prtV p, prtV q] (prtV (plusP p q)) := by
 intro w hg
 unfold PrtS.le at hp hq
 have K1 := AddF (Vq.arg (n := p.an) (d := p.ad) (by omega) (by omega)) (Vq.arg (n := q.an) (d := q.ad) (by omega) (by omega))
 have K2 := AddF (Vq.arg (n := p.sn) (d := p.sd) (by omega) (by omega)) (Vq.arg (n := q.sn) (d := q.sd) (by omega) (by omega))
 have K3 := AddF (Vq.arg (n := p.jn) (d := p.jd) (by omega) (by omega)) (Vq.arg (n := q.jn) (d := q.jd) (by omega) (by omega))
 change Ret _ _ (FR (p.a + q.a)) at K1
 change Ret _ _ (FR (p.s + q.s)) at K2
 change Ret _ _ (FR (p.j + q.j)) at K3
 have hv : prtV (plusP p q) = .agg #[.string q.nm, .string (frN (p.a + q.a)), .string (frD (p.a + q.a)), .string (frN (p.s + q.s)), .string (frD (p.s + q.s)), .string (frN (p.j + q.j)), .string (frD (p.j + q.j))] := rfl
 rw [hv]
 unfold FR at K1 K2 K3
 unfold FV at K1 K2 K3
 clear hp hq hv
 generalize frN (p.a + q.a) = r1 at *
 generalize frD (p.a + q.a) = r2 at *
 generalize frN (p.s + q.s) = r3 at *
 generalize frD (p.s + q.s) = r4 at *
 generalize frN (p.j + q.j) = r5 at *
 generalize frD (p.j + q.j) = r6 at *
 obtain ⟨f0, f1, f2, f3, f4, f5, f6⟩ := p
 obtain ⟨e0, e1, e2, e3, e4, e5, e6⟩ := q
 unfold prtV
 dsimp only at K1 K2 K3 ⊢
 have hs := (((St.refl hg).alloc (.cells #[.string f0, .string f1, .string f2, .string f3, .string f4, .string f5, .string f6] 36)).alloc (.cells #[.string e0, .string e1, .string e2, .string e3, .string e4, .string e5, .string e6] 36)).alloc (.cells #[.string ⟨#[]⟩, .string ⟨#[]⟩, .string ⟨#[]⟩, .string ⟨#[]⟩, .string ⟨#[]⟩, .string ⟨#[]⟩, .string ⟨#[]⟩] 36)
 have B0 := ((Bx.new w #[.string f0, .string f1, .string f2, .string f3, .string f4, .string f5, .string f6] 36).alloc (.cells #[.string e0, .string e1, .string e2, .string e3, .string e4, .string e5, .string e6] 36)).alloc (.cells #[.string ⟨#[]⟩, .string ⟨#[]⟩, .string ⟨#[]⟩, .string ⟨#[]⟩, .string ⟨#[]⟩, .string ⟨#[]⟩, .string ⟨#[]⟩] 36)
 have B1 := (Bx.new1 w (.cells #[.string f0, .string f1, .string f2, .string f3, .string f4, .string f5, .string f6] 36) #[.string e0, .string e1, .string e2, .string e3, .string e4, .string e5, .string e6] 36).alloc (.cells #[.string ⟨#[]⟩, .string ⟨#[]⟩, .string ⟨#[]⟩, .string ⟨#[]⟩, .string ⟨#[]⟩, .string ⟨#[]⟩, .string ⟨#[]⟩] 36)
 have B2 := Bx.new2 w (.cells #[.string f0, .string f1, .string f2, .string f3, .string f4, .string f5, .string f6] 36) (.cells #[.string e0, .string e1, .string e2, .string e3, .string e4, .string e5, .string e6] 36) #[.string ⟨#[]⟩, .string ⟨#[]⟩, .string ⟨#[]⟩, .string ⟨#[]⟩, .string ⟨#[]⟩, .string ⟨#[]⟩, .string ⟨#[]⟩] 36
 obtain ⟨W, hW⟩ : ∃ W, ((w.alloc (.cells #[.string f0, .string f1, .string f2, .string f3, .string f4, .string f5, .string f6] 36)).alloc (.cells #[.string e0, .string e1, .string e2, .string e3, .string e4, .string e5, .string e6] 36)).alloc (.cells #[.string ⟨#[]⟩, .string ⟨#[]⟩, .string ⟨#[]⟩, .string ⟨#[]⟩, .string ⟨#[]⟩, .string ⟨#[]⟩, .string ⟨#[]⟩] 36) = W := ⟨_, rfl⟩
 rw [hW] at hs B0 B1 B2
 have HW := Lib.hid hW
 clear hW
 have k0 := B0.keeps (i := 0) (v := .string f0) rfl
 have l0 := B1.keeps (i := 0) (v := .string e0) rfl
 have k1 := B0.keeps (i := 1) (v := .string f1) rfl
 have l1 := B1.keeps (i := 1) (v := .string e1) rfl
 have k2 := B0.keeps (i := 2) (v := .string f2) rfl
 have l2 := B1.keeps (i := 2) (v := .string e2) rfl
 have k3 := B0.keeps (i := 3) (v := .string f3) rfl
 have l3 := B1.keeps (i := 3) (v := .string e3) rfl
 have k4 := B0.keeps (i := 4) (v := .string f4) rfl
 have l4 := B1.keeps (i := 4) (v := .string e4) rfl
 have k5 := B0.keeps (i := 5) (v := .string f5) rfl
 have l5 := B1.keeps (i := 5) (v := .string e5) rfl
 have k6 := B0.keeps (i := 6) (v := .string f6) rfl
 have l6 := B1.keeps (i := 6) (v := .string e6) rfl
 go_enter Tryz.func44, Tryz.ntmps44
 go_wp2_with fail
 rw [HW.out]
 refine wp_region_kept_tail 18 (by kernel_rfl) (by kernel_rfl) ?_
 simp only [List.take_succ_cons, List.take_zero, List.drop_succ_cons, List.drop_zero]
 repeat (go_big_quiet_step (first | (with_reducible exact K1.kept hs) | (with_reducible exact K2.kept hs) | (with_reducible exact K3.kept hs)))
 refine wpQuiet_nil ?_
 rintro _ ⟨u, rfl⟩
 replace B2 := B2.kept u
 replace hs := hs.kept u
 clear k0 k1 k2 k3 k4 k5 k6 l0 l1 l2 l3 l4 l5 l6 B0 B1
 generalize u.W = W2 at *
 have c0 := B2.cell (i := 0) (v := .string ⟨#[]⟩) rfl
 have g0 := B2.frozen 0
 have c1 := B2.cell (i := 1) (v := .string ⟨#[]⟩) rfl
 have g1 := B2.frozen 1
 have c2 := B2.cell (i := 2) (v := .string ⟨#[]⟩) rfl
 have g2 := B2.frozen 2
 have c3 := B2.cell (i := 3) (v := .string ⟨#[]⟩) rfl
 have g3 := B2.frozen 3
 have c4 := B2.cell (i := 4) (v := .string ⟨#[]⟩) rfl
 have g4 := B2.frozen 4
 have c5 := B2.cell (i := 5) (v := .string ⟨#[]⟩) rfl
 have g5 := B2.frozen 5
 have c6 := B2.cell (i := 6) (v := .string ⟨#[]⟩) rfl
 have g6 := B2.frozen 6
 go_wp2_with fail
 have Y := ((((((B2.set 0 (.string e0)).set 1 (.string r1)).set 2 (.string r2)).set 3 (.string r3)).set 4 (.string r4)).set 5 (.string r5)).set 6 (.string r6)
 have hbe := ((((((hs.set (b := w.heap.size + 2) (by omega) 0 (.string e0)).set (b := w.heap.size + 2) (by omega) 1 (.string r1)).set (b := w.heap.size + 2) (by omega) 2 (.string r2)).set (b := w.heap.size + 2) (by omega) 3 (.string r3)).set (b := w.heap.size + 2) (by omega) 4 (.string r4)).set (b := w.heap.size + 2) (by omega) 5 (.string r5)).set (b := w.heap.size + 2) (by omega) 6 (.string r6)
 have y0 := Y.cell (i := 0) (v := .string e0) rfl
 have y1 := Y.cell (i := 1) (v := .string r1) rfl
 have y2 := Y.cell (i := 2) (v := .string r2) rfl
 have y3 := Y.cell (i := 3) (v := .string r3) rfl
 have y4 := Y.cell (i := 4) (v := .string r4) rfl
 have y5 := Y.cell (i := 5) (v := .string r5) rfl
 have y6 := Y.cell (i := 6) (v := .string r6) rfl
 exact bodyPost_ret (v := .agg #[.string e0, .string r1, .string r2, .string r3, .string r4, .string r5, .string r6]) (by simp [results, Tryz.results44, go_sem, y0, y1, y2, y3, y4, y5, y6]) rfl ⟨rfl, hbe.2⟩
end Go.Proofs.YticfdeaphiifeaaGreatDoor
