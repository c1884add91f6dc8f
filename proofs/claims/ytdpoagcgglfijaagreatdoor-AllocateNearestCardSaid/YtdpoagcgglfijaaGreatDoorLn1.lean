/- The closure of AllocateNearest: the sum of two squares. Condition: numbers of bounded length. -/
import Derived.Test.YtdpoagcgglfijaaGreatDoorCk
import Derived.Test.YtdpoagcgglfijaaGreatDoorWl
import Derived.Test.YtdpoagcgglfijaaGreatDoorEqI
namespace Go.Proofs.YtdpoagcgglfijaaGreatDoor
open Go.RowKit Go.Shelf Dec QQ SP

/-- what squares returns at a moved number z -/
def sqV (li lk : Int) (qi qk : Rat) (z : Int) : Rat := (((li - z : Int) : Rat) - qi) * (((li - z : Int) : Rat) - qi) + (((lk + z : Int) : Rat) - qk) * (((lk + z : Int) : Rat) - qk)
theorem sqV_eq (li lk : Int) (qi qk : Rat) (z : Int) : sqV li lk qi qk z = sqQ ((li : Rat) - qi) ((lk : Rat) - qk) (z : Rat) := by
  unfold sqV sqQ
  rw [Rat.intCast_sub, Rat.intCast_add]
  grind
theorem sqV_fit {li lk z : Int} {qi qk : Rat} (h1 : Fit 62 li) (h2 : Fit 62 lk) (h3 : Fit 62 z) (h4 : FitQ 62 qi) (h5 : FitQ 62 qk) : FitQ 126 (((li - z : Int) : Rat) - qi) ∧ FitQ 126 (((lk + z : Int) : Rat) - qk) ∧ FitQ 505 (sqV li lk qi qk z) := by
  have a1 : FitQ 63 ((li - z : Int) : Rat) := FitQ.int (h1.sub h3) (by decide)
  have a2 : FitQ 63 ((lk + z : Int) : Rat) := FitQ.int (h2.add h3) (by decide)
  have b1 := FitQ.mono (a1.sub h4) (m := 126) (by decide)
  have b2 := FitQ.mono (a2.sub h5) (m := 126) (by decide)
  exact ⟨b1, b2, FitQ.mono ((b1.mul b1).add (b2.mul b2)) (by decide)⟩
set_option maxRecDepth 100000 in
set_option maxHeartbeats 4000000 in
theorem sq4_any {b1 b2 b3 b4 g g2 n c1 c2 i k : Nat} {L : List Int} {Q : List Rat} {m : ByteArray} {z li lk : Int} {qi qk : Rat} (hm : Vs m z) (hin : i < n) (hkn : k < n) (hi : L[i]? = some li) (hk : L[k]? = some lk) (hqi : Q[i]? = some qi) (hqk : Q[k]? = some qk)
    (h1 : Fit 62 li) (h2 : Fit 62 lk) (h3 : Fit 62 z) (h4 : FitQ 62 qi) (h5 : FitQ 62 qk) (w : World) (hg : Gl w)
    (x1 : w.cell? ⟨b1, 0, none⟩ = some (.slice (some ⟨g, 0, none⟩) n c1)) (x2 : w.cell? ⟨b2, 0, none⟩ = some (.int .i64 (i : Int))) (x3 : w.cell? ⟨b3, 0, none⟩ = some (.slice (some ⟨g2, 0, none⟩) n c2)) (x4 : w.cell? ⟨b4, 0, none⟩ = some (.int .i64 (k : Int)))
    (hr1 : Row w (some ⟨g, 0, none⟩) ((L.map canS).map sv)) (hr2 : Row w (some ⟨g2, 0, none⟩) (flatG qcells Q)) :
    Calls Tryz.prog 23 #[.string m, .pointer (some ⟨b1, 0, none⟩), .pointer (some ⟨b2, 0, none⟩), .pointer (some ⟨b3, 0, none⟩), .pointer (some ⟨b4, 0, none⟩)] w fun e w' => e = .returned (FR (sqV li lk qi qk z)) ∧ Below w.heap.size w w' := by
  have hs := (St.refl hg).alloc (.cells #[.string ⟨#[]⟩, .string ⟨#[]⟩] 38)
  have BZ := Bx.new w #[.string ⟨#[]⟩, .string ⟨#[]⟩] 38
  obtain ⟨f1, f2, f3⟩ := sqV_fit h1 h2 h3 h4 h5
  have KA1 := SubR (Vs.can h1 (by decide)) hm
  have KA2 := OfF (Vs.can (h1.sub h3) (by decide)) (by have := (h1.sub h3).size; omega)
  have g1 : FitQ 63 ((li - z : Int) : Rat) := FitQ.int (h1.sub h3) (by decide)
  have KA3 := SubF (Vq.fr g1 (by decide)) (Vq.fr h4 (by decide))
  have KB1 := AddR (Vs.can h2 (by decide)) hm
  have KB2 := OfF (Vs.can (h2.add h3) (by decide)) (by have := (h2.add h3).size; omega)
  have g2' : FitQ 63 ((lk + z : Int) : Rat) := FitQ.int (h2.add h3) (by decide)
  have KB3 := SubF (Vq.fr g2' (by decide)) (Vq.fr h5 (by decide))
  have KC1 := MulF (Vq.fr f1 (by decide)) (Vq.fr f1 (by decide))
  have KC2 := MulF (Vq.fr f2 (by decide)) (Vq.fr f2 (by decide))
  have KC3 := AddF (Vq.fr (f1.mul f1) (by decide)) (Vq.fr (f2.mul f2) (by decide))
  change Ret _ _ (FR (sqV li lk qi qk z)) at KC3
  obtain ⟨bb, oo, e, l5, ca⟩ := hr1 i (sv (canS li)) (by rw [List.getElem?_map, List.getElem?_map, hi]; rfl)
  injection e with e; injection e with e e'; subst e e'
  obtain ⟨bb, oo, e, l6, cb⟩ := hr1 k (sv (canS lk)) (by rw [List.getElem?_map, List.getElem?_map, hk]; rfl)
  injection e with e; injection e with e e'; subst e e'
  obtain ⟨bb, oo, e, l7, hci⟩ := row_at (cs := qcells) (m := 2) qcells_len (by decide) hr2 hqi
  injection e with e; injection e with e e'; subst e e'
  obtain ⟨bb, oo, e, l8, hck⟩ := row_at (cs := qcells) (m := 2) qcells_len (by decide) hr2 hqk
  injection e with e; injection e with e e'; subst e e'
  unfold sv at ca cb
  rw [Nat.zero_add] at ca cb
  have ci0 := hci 0 _ rfl
  have ci1 := hci 1 _ rfl
  have ck0 := hck 0 _ rfl
  have ck1 := hck 1 _ rfl
  rw [Nat.zero_add, Nat.add_zero] at ci0 ck0
  rw [Nat.zero_add] at ci1 ck1
  unfold FV at KA3 KB3 KC1 KC2 KC3
  unfold FR at KA2 KA3 KB2 KB3 KC1 KC2 KC3 ⊢
  generalize frN (sqV li lk qi qk z) = rn at *
  generalize frD (sqV li lk qi qk z) = rd at *
  generalize frN ((((li - z : Int) : Rat) - qi) * (((li - z : Int) : Rat) - qi)) = pn at *
  generalize frD ((((li - z : Int) : Rat) - qi) * (((li - z : Int) : Rat) - qi)) = pd at *
  generalize frN ((((lk + z : Int) : Rat) - qk) * (((lk + z : Int) : Rat) - qk)) = qn at *
  generalize frD ((((lk + z : Int) : Rat) - qk) * (((lk + z : Int) : Rat) - qk)) = qd at *
  generalize frN (((li - z : Int) : Rat) - qi) = an at *
  generalize frD (((li - z : Int) : Rat) - qi) = ad at *
  generalize frN (((lk + z : Int) : Rat) - qk) = bn at *
  generalize frD (((lk + z : Int) : Rat) - qk) = bd at *
  generalize frN ((li - z : Int) : Rat) = un at *
  generalize frD ((li - z : Int) : Rat) = ud at *
  generalize frN ((lk + z : Int) : Rat) = vn at *
  generalize frD ((lk + z : Int) : Rat) = vd at *
  generalize canS (li - z) = s1 at *
  generalize canS (lk + z) = s2 at *
  generalize frN qi = in0 at *
  generalize frD qi = id0 at *
  generalize frN qk = kn0 at *
  generalize frD qk = kd0 at *
  generalize canS li = l1 at *
  generalize canS lk = l2 at *
  have hw : Below w.heap.size w (w.alloc (.cells #[.string ⟨#[]⟩, .string ⟨#[]⟩] 38)) := (Below.refl _ _).alloc (Nat.le_refl _) _
  have up : ∀ {p : Addr} {v : Value}, w.cell? p = some v → (w.alloc (.cells #[.string ⟨#[]⟩, .string ⟨#[]⟩] 38)).cell? p = some v := fun h => (hw.cell (block_lt_of_cell h)).trans h
  have y1 := up x1
  have y2 := up x2
  have y3 := up x3
  have y4 := up x4
  have ya := up ca
  have yb := up cb
  have yi0 := up ci0
  have yi1 := up ci1
  have yk0 := up ck0
  have yk1 := up ck1
  have pin : (i : Int) < (n : Int) := by omega
  have pkn : (k : Int) < (n : Int) := by omega
  have HW := Lib.hid hw
  clear hg x1 x2 x3 x4 hr1 hr2 ca cb ci0 ci1 ck0 ck1 hci hck l5 l6 l7 l8 up hw h1 h2 h3 h4 h5 f1 f2 f3 g1 g2' hi hk hqi hqk hm
  obtain ⟨bz, hbz⟩ : ∃ b, w.heap.size = b := ⟨_, rfl⟩
  have HBZ := Lib.hid hbz
  rw [hbz] at BZ
  go_enter Tryz.func23, Tryz.ntmps23
  go_wp2_with fail
  clear hbz
  generalize w.alloc (.cells #[.string ⟨#[]⟩, .string ⟨#[]⟩] 38) = w1 at *
  refine wp_region_fresh1 13 12 7 #[.string ⟨#[]⟩, .string ⟨#[]⟩] (by kernel_rfl) (by kernel_rfl) (by kernel_rfl) (by omega) rfl (by kernel_rfl) ⟨_, 7, _, rfl, rfl, rfl, fun _ _ => by simp [execOp, go_sem, ptrTo]; rfl⟩ ?_
  apply Exists.intro
  refine ⟨fun S W hne hk hcl => ?_, ?_⟩
  · simp only [List.take_succ_cons, List.take_zero, quietL, List.mem_cons, List.not_mem_nil, or_false, Nat.reduceAdd, Nat.reduceEqDiff, reduceIte, Nat.zero_add]
    have kk0 := in_cell hk y1
    have kk1 := in_cell hk y2
    have kk2 := in_cell hk y3
    have kk3 := in_cell hk ya
    have kk4 := in_cell hk yi0
    have kk5 := in_cell hk yi1
    repeat (go_big_quiet_step (first | (with_reducible exact KA1.fresh hs hk hcl) | (with_reducible exact KA2.fresh hs hk hcl) | (with_reducible exact KA3.fresh hs hk hcl)))
    exact wpQuiet_nil rfl
  intro b7 v1 hb7 hv1 hx7
  simp only [List.drop_succ_cons, List.drop_zero, ptrTo]
  have z0 := hx7.cell (i := 0) (v := .string ⟨#[]⟩) rfl
  have z1 := hx7.cell (i := 1) (v := .string ⟨#[]⟩) rfl
  have g0 := hx7.frozen 0
  have g1 := hx7.frozen 1
  go_wp2_with fail
  have low7 : Below w1.heap.size w1 ((v1.setCell ⟨b7, 0, none⟩ (.string an)).setCell ⟨b7, 1, none⟩ (.string ad)) := (hv1.setCell (p := ⟨b7, 0, none⟩) hb7 _).setCell (p := ⟨b7, 1, none⟩) hb7 _
  have X7 : Bx ((v1.setCell ⟨b7, 0, none⟩ (.string an)).setCell ⟨b7, 1, none⟩ (.string ad)) b7 #[.string an, .string ad] := (hx7.set 0 (.string an)).set 1 (.string ad)
  replace BZ := BZ.on low7
  have up : ∀ {p : Addr} {v : Value}, w1.cell? p = some v → ((v1.setCell ⟨b7, 0, none⟩ (.string an)).setCell ⟨b7, 1, none⟩ (.string ad)).cell? p = some v := fun h => (low7.cell (block_lt_of_cell h)).trans h
  replace y1 := up y1
  replace y3 := up y3
  replace y4 := up y4
  replace yb := up yb
  replace yk0 := up yk0
  replace yk1 := up yk1
  replace hs := hs.on low7
  clear z0 z1 g0 g1 hx7 hv1 hb7 low7 up ya yi0 yi1 y2 KA1 KA2 KA3
  generalize (v1.setCell ⟨b7, 0, none⟩ (.string an)).setCell ⟨b7, 1, none⟩ (.string ad) = w2 at *
  try go_wp2_with fail
  refine wp_region_fresh1 13 12 8 #[.string ⟨#[]⟩, .string ⟨#[]⟩] (by kernel_rfl) (by kernel_rfl) (by kernel_rfl) (by omega) rfl (by kernel_rfl) ⟨_, 8, _, rfl, rfl, rfl, fun _ _ => by simp [execOp, go_sem, ptrTo]; rfl⟩ ?_
  apply Exists.intro
  refine ⟨fun S W hne hk hcl => ?_, ?_⟩
  · simp only [List.take_succ_cons, List.take_zero, quietL, List.mem_cons, List.not_mem_nil, or_false, Nat.reduceAdd, Nat.reduceEqDiff, reduceIte, Nat.zero_add]
    have kk0 := in_cell hk y1
    have kk1 := in_cell hk y4
    have kk2 := in_cell hk y3
    have kk3 := in_cell hk yb
    have kk4 := in_cell hk yk0
    have kk5 := in_cell hk yk1
    repeat (go_big_quiet_step (first | (with_reducible exact KB1.fresh hs hk hcl) | (with_reducible exact KB2.fresh hs hk hcl) | (with_reducible exact KB3.fresh hs hk hcl)))
    exact wpQuiet_nil rfl
  intro b8 v2 hb8 hv2 hx8
  simp only [List.drop_succ_cons, List.drop_zero, ptrTo]
  have z0 := hx8.cell (i := 0) (v := .string ⟨#[]⟩) rfl
  have z1 := hx8.cell (i := 1) (v := .string ⟨#[]⟩) rfl
  have g0 := hx8.frozen 0
  have g1 := hx8.frozen 1
  go_wp2_with fail
  have low8 : Below w2.heap.size w2 ((v2.setCell ⟨b8, 0, none⟩ (.string bn)).setCell ⟨b8, 1, none⟩ (.string bd)) := (hv2.setCell (p := ⟨b8, 0, none⟩) hb8 _).setCell (p := ⟨b8, 1, none⟩) hb8 _
  have X8 : Bx ((v2.setCell ⟨b8, 0, none⟩ (.string bn)).setCell ⟨b8, 1, none⟩ (.string bd)) b8 #[.string bn, .string bd] := (hx8.set 0 (.string bn)).set 1 (.string bd)
  replace BZ := BZ.on low8
  replace X7 := X7.on low8
  replace hs := hs.on low8
  clear z0 z1 g0 g1 hx8 hv2 hb8 low8 y1 y3 y4 yb yk0 yk1 KB1 KB2 KB3
  generalize (v2.setCell ⟨b8, 0, none⟩ (.string bn)).setCell ⟨b8, 1, none⟩ (.string bd) = w3 at *
  have a0 := X7.keeps (i := 0) (v := .string an) rfl
  have a1 := X7.keeps (i := 1) (v := .string ad) rfl
  have b0 := X8.keeps (i := 0) (v := .string bn) rfl
  have b1 := X8.keeps (i := 1) (v := .string bd) rfl
  try go_wp2_with fail
  refine wp_region_kept_tail 7 (by kernel_rfl) (by kernel_rfl) ?_
  simp only [List.take_succ_cons, List.take_zero, List.drop_succ_cons, List.drop_zero]
  repeat (go_big_quiet_step (first | (with_reducible exact KC1.kept hs) | (with_reducible exact KC2.kept hs) | (with_reducible exact KC3.kept hs)))
  refine wpQuiet_nil ?_
  rintro _ ⟨u, rfl⟩
  replace BZ := BZ.kept u
  replace hs := hs.kept u
  clear a0 a1 b0 b1 KC1 KC2 KC3 X7 X8
  generalize u.W = w4 at *
  have z0 := BZ.cell (i := 0) (v := .string ⟨#[]⟩) rfl
  have z1 := BZ.cell (i := 1) (v := .string ⟨#[]⟩) rfl
  have g0 := BZ.frozen 0
  have g1 := BZ.frozen 1
  go_wp2_with fail
  obtain ⟨W, hW, y0, y1, hbe⟩ := ret_frac hs (by have := HBZ.out; omega) BZ rn rd
  rw [hW]
  exact bodyPost_ret (v := .agg #[.string rn, .string rd]) (by simp [results, Tryz.results23, go_sem, y0, y1]) rfl ⟨rfl, hbe⟩
end Go.Proofs.YtdpoagcgglfijaaGreatDoor
