/- The opposite of a fraction. Condition: numbers of bounded length. -/
import Derived.Test.YtdpoagcgglfijaaGreatDoorFq
namespace Go.Proofs.YtdpoagcgglfijaaGreatDoor
open Go.RowKit Go.Shelf Dec QQ

theorem frac_neg' {n d : ByteArray} {q : Rat} (h : Vq n d q) : rat (-valS n) (valS (dn d)) = -q := by
  rw [rat_negn, dn_rat, h.1]
set_option maxRecDepth 100000 in
set_option maxHeartbeats 4000000 in
theorem NegF {a b : ByteArray} {q : Rat} (h : Vq a b q) : Ret 59 #[FV a b] (FR (-q)) := by
  intro w hg
  have hs := ((St.refl hg).alloc (.cells #[.string a, .string b] 38)).alloc (.cells #[.string ⟨#[]⟩, .string ⟨#[]⟩] 38)
  have B0 := Bx.new1 w (.cells #[.string a, .string b] 38) #[.string ⟨#[]⟩, .string ⟨#[]⟩] 38
  have s1 := h.2.1
  have s2 := h.2.2
  have sd := dn_size b
  have K1 := parts_any (n := a) (d := b) (by omega)
  have va := Vs.arg (s := a) (by omega)
  have vd := Vs.arg (s := dn b) (by omega)
  have K2 := NegR va
  have fa : Fit 100000 (-valS a) := by
    have := Fit.val (a := a) s1
    unfold Fit at *
    rwa [Int.natAbs_neg]
  have K3 := made_any (Vs.can fa (by omega)) vd (by have := fa.size; omega) (by omega) (dn_ne b)
  rw [frac_neg' h] at K3
  unfold FV at *
  unfold FR at *
  clear va vd fa s1 s2 sd h
  generalize frN (-q) = rn at *
  generalize frD (-q) = rd at *
  generalize canS (-valS a) = s at *
  generalize dn b = d at *
  go_enter Tryz.func59, Tryz.ntmps59
  go_wp2_with fail
  refine K1.step hs ?_
  intro w1 hs hb
  replace B0 := B0.on hb
  go_wp2_with fail
  refine K2.step hs ?_
  intro w2 hs hb
  replace B0 := B0.on hb
  go_wp2_with fail
  refine K3.step hs ?_
  intro w3 hs hb
  have B := B0.on hb
  have ce0 := B.cell (i := 0) (v := .string ⟨#[]⟩) rfl
  have ce1 := B.cell (i := 1) (v := .string ⟨#[]⟩) rfl
  have cg0 := B.frozen 0
  have cg1 := B.frozen 1
  go_wp2_with fail
  obtain ⟨W, hW, y0, y1, hbe⟩ := ret_frac hs (by omega) B rn rd
  rw [hW]
  exact bodyPost_ret (v := .agg #[.string rn, .string rd]) (by simp [results, Tryz.results59, go_sem, y0, y1]) rfl ⟨rfl, hbe⟩
end Go.Proofs.YtdpoagcgglfijaaGreatDoor
