/- Attribution: Drift. Conditions: up to five sectors with numbers of bounded length, or more than 32. -/
import Derived.Test.YtndkglmokhndnaaGreatDoorAt3
import Derived.Test.YtndkglmokhndnaaGreatDoorAt9
import Derived.Test.YtndkglmokhndnaaGreatDoorClo
namespace Go.Proofs.YtndkglmokhndnaaGreatDoor
open Go.RowKit Go.Shelf Dec QQ

/-- why sectors have no weights after the period, or 0 -/
def driE (l : List SecS) : Int := if chkS l ≠ 0 then chkS l else if ownG l = 0 ∨ benG l = 0 then 10 else 0
def driR (l : List SecS) : List SecS := if driE l = 0 then driftL l else []
theorem driE_ok {l : List SecS} : driE l = 0 ↔ OkS l ∧ ownG l ≠ 0 ∧ benG l ≠ 0 := by
  unfold driE
  rw [← chkS_iff]
  by_cases h1 : chkS l = 0
  · rw [if_neg (by simpa using h1)]
    by_cases h2 : ownG l = 0 ∨ benG l = 0
    · rw [if_pos h2]
      simp only [h1, true_and]
      refine ⟨fun h => (by cases h), fun h => ?_⟩
      rcases h2 with h2 | h2
      · exact absurd h2 h.1
      · exact absurd h2 h.2
    · rw [if_neg h2]
      rw [not_or] at h2
      simp [h1, h2.1, h2.2]
  · rw [if_pos h1]
    simp [h1]
theorem FewS.grow {k0 : Nat} {l : List SecS} (h : FewS k0 l) {s : SecS} (hs : s ∈ l) : FitQ (k0 + 2) (1 + s.r) ∧ FitQ (k0 + 2) (1 + s.b) ∧ FitQ (2 * k0 + 2) (s.w * (1 + s.r)) ∧ FitQ (2 * k0 + 2) (s.v * (1 + s.b)) := by
  have f := h.fit hs
  have g1 : FitQ (k0 + 2) (1 + s.r) := ((FitQ.one (Nat.le_refl 1)).add f.2.1).mono (by omega)
  have g2 : FitQ (k0 + 2) (1 + s.b) := ((FitQ.one (Nat.le_refl 1)).add f.2.2.2).mono (by omega)
  exact ⟨g1, g2, (f.1.mul g1).mono (by omega), (f.2.2.1.mul g2).mono (by omega)⟩
theorem FewS.growths {k0 : Nat} {l : List SecS} (h : FewS k0 l) : FitQ (5 * (2 * k0 + 3) + 1) (ownG l) ∧ FitQ (5 * (2 * k0 + 3) + 1) (benG l) :=
  ⟨FitQ.sum_le (k := 2 * k0 + 2) (fun a ha => (h.grow ha).2.2.1) h.1 (by omega), FitQ.sum_le (k := 2 * k0 + 2) (fun a ha => (h.grow ha).2.2.2) h.1 (by omega)⟩
set_option maxRecDepth 100000 in
set_option maxHeartbeats 4000000 in
theorem drift_1 {a b c d : ByteArray} {p q : Rat} {k : Nat} (h1 : Vq a b p) (h2 : Vq c d q) (hf : FitQ k (1 + q)) (hk : k ≤ 99999) : Ret 84 #[FV a b, FV c d] (FR (p * (1 + q))) := by
  intro w hg
  have KO := one_any
  have KA := AddF (Vq.fr (FitQ.one (Nat.le_refl 1)) (by decide)) h2
  have KM := MulF h1 (Vq.fr hf hk)
  obtain ⟨W, hW, B0, B1, B2, hbw⟩ := three_boxes w 42 #[.string a, .string b] #[.string c, .string d] #[.string ⟨#[]⟩, .string ⟨#[]⟩]
  have HW := Lib.hid hW
  clear hW hf
  have hs : St w W := ⟨hg, hbw⟩
  unfold FR at KO KA KM ⊢
  unfold FV at KA KM ⊢
  generalize frN (p * (1 + q)) = rn at *
  generalize frD (p * (1 + q)) = rd at *
  generalize frN (1 + q) = mn at *
  generalize frD (1 + q) = md at *
  generalize frN 1 = on at *
  generalize frD 1 = od at *
  clear h1 h2
  have k0 := B0.keeps (i := 0) (v := .string a) rfl
  have k1 := B0.keeps (i := 1) (v := .string b) rfl
  have k2 := B1.keeps (i := 0) (v := .string c) rfl
  have k3 := B1.keeps (i := 1) (v := .string d) rfl
  go_enter Tryz.func84, Tryz.ntmps84
  go_wp2_with fail
  rw [HW.out]
  refine wp_region_kept_tail 5 (by kernel_rfl) (by kernel_rfl) ?_
  simp only [List.take_succ_cons, List.take_zero, List.drop_succ_cons, List.drop_zero]
  repeat (go_big_quiet_step (first | (with_reducible exact KO.kept hs) | (with_reducible exact KA.kept hs) | (with_reducible exact KM.kept hs)))
  refine wpQuiet_nil ?_
  rintro _ ⟨u, rfl⟩
  replace B2 := B2.kept u
  replace hs := hs.kept u
  have ce0 := B2.cell (i := 0) (v := .string ⟨#[]⟩) rfl
  have ce1 := B2.cell (i := 1) (v := .string ⟨#[]⟩) rfl
  have cg0 := B2.frozen 0
  have cg1 := B2.frozen 1
  go_wp2_with fail
  obtain ⟨W, hW, y0, y1, hbe⟩ := ret_frac hs (by omega) B2 rn rd
  rw [hW]
  exact bodyPost_ret (v := .agg #[.string rn, .string rd]) (by simp [results, Tryz.results84, go_sem, y0, y1]) rfl ⟨rfl, hbe⟩
set_option maxRecDepth 100000 in
set_option maxHeartbeats 4000000 in
theorem drift_2 (s : SecS) (hz : s.le 20000) (Bf : Nat) : RetI (fun w => Bx w Bf #[.func (.func 84) #[] #[]]) 87 #[secV s, .pointer (some ⟨Bf, 0, none⟩)] (FR (s.w * (1 + s.r))) := by
  intro w hg hi
  have hf := hz.fit (by omega)
  have hfit : FitQ 20002 (1 + s.r) := ((FitQ.one (Nat.le_refl 1)).add hf.2.1).mono (by omega)
  unfold SecS.le at hz
  have K1 := drift_1 (Vq.arg (n := s.wn) (d := s.wd) (by omega) (by omega)) (Vq.arg (n := s.rn) (d := s.rd) (by omega) (by omega)) hfit (by omega)
  change Ret _ _ (FR (s.w * (1 + s.r))) at K1
  unfold FR at K1 ⊢
  unfold FV at K1
  generalize frN (s.w * (1 + s.r)) = rn at *
  generalize frD (s.w * (1 + s.r)) = rd at *
  clear hf hfit hz
  unfold secV
  obtain ⟨f0, f1, f2, f3, f4, f5, f6, f7, f8⟩ := s
  dsimp only at K1 ⊢
  have HF := Lib.hid hi
  have cf := (hi.alloc (.cells #[.string f0, .string f1, .string f2, .string f3, .string f4, .string f5, .string f6, .string f7, .string f8] 54)).alloc (.cells #[.string ⟨#[]⟩, .string ⟨#[]⟩] 42)
  have c0 := cf.cell (i := 0) (v := .func (.func 84) #[] #[]) rfl
  have hs := ((St.refl hg).alloc (.cells #[.string f0, .string f1, .string f2, .string f3, .string f4, .string f5, .string f6, .string f7, .string f8] 54)).alloc (.cells #[.string ⟨#[]⟩, .string ⟨#[]⟩] 42)
  have B := Bx.new1 w (.cells #[.string f0, .string f1, .string f2, .string f3, .string f4, .string f5, .string f6, .string f7, .string f8] 54) #[.string ⟨#[]⟩, .string ⟨#[]⟩] 42
  clear hi
  go_enter Tryz.func87, Tryz.ntmps87
  go_wp2_with fail
  refine K1.step hs ?_
  intro w1 hs hb
  replace B := B.on hb
  have ce0 := B.cell (i := 0) (v := .string ⟨#[]⟩) rfl
  have ce1 := B.cell (i := 1) (v := .string ⟨#[]⟩) rfl
  have cg0 := B.frozen 0
  have cg1 := B.frozen 1
  go_wp2_with fail
  obtain ⟨W, hW, y0, y1, hbe⟩ := ret_frac hs (by omega) B rn rd
  rw [hW]
  exact bodyPost_ret (v := .agg #[.string rn, .string rd]) (by simp [results, Tryz.results87, go_sem, y0, y1]) rfl ⟨rfl, hbe⟩
set_option maxRecDepth 100000 in
set_option maxHeartbeats 4000000 in
theorem drift_3 (s : SecS) (hz : s.le 20000) (Bf : Nat) : RetI (fun w => Bx w Bf #[.func (.func 84) #[] #[]]) 88 #[secV s, .pointer (some ⟨Bf, 0, none⟩)] (FR (s.v * (1 + s.b))) := by
  intro w hg hi
  have hf := hz.fit (by omega)
  have hfit : FitQ 20002 (1 + s.b) := ((FitQ.one (Nat.le_refl 1)).add hf.2.2.2).mono (by omega)
  unfold SecS.le at hz
  have K1 := drift_1 (Vq.arg (n := s.vn) (d := s.vd) (by omega) (by omega)) (Vq.arg (n := s.bn) (d := s.bd) (by omega) (by omega)) hfit (by omega)
  change Ret _ _ (FR (s.v * (1 + s.b))) at K1
  unfold FR at K1 ⊢
  unfold FV at K1
  generalize frN (s.v * (1 + s.b)) = rn at *
  generalize frD (s.v * (1 + s.b)) = rd at *
  clear hf hfit hz
  unfold secV
  obtain ⟨f0, f1, f2, f3, f4, f5, f6, f7, f8⟩ := s
  dsimp only at K1 ⊢
  have HF := Lib.hid hi
  have cf := (hi.alloc (.cells #[.string f0, .string f1, .string f2, .string f3, .string f4, .string f5, .string f6, .string f7, .string f8] 54)).alloc (.cells #[.string ⟨#[]⟩, .string ⟨#[]⟩] 42)
  have c0 := cf.cell (i := 0) (v := .func (.func 84) #[] #[]) rfl
  have hs := ((St.refl hg).alloc (.cells #[.string f0, .string f1, .string f2, .string f3, .string f4, .string f5, .string f6, .string f7, .string f8] 54)).alloc (.cells #[.string ⟨#[]⟩, .string ⟨#[]⟩] 42)
  have B := Bx.new1 w (.cells #[.string f0, .string f1, .string f2, .string f3, .string f4, .string f5, .string f6, .string f7, .string f8] 54) #[.string ⟨#[]⟩, .string ⟨#[]⟩] 42
  clear hi
  go_enter Tryz.func88, Tryz.ntmps88
  go_wp2_with fail
  refine K1.step hs ?_
  intro w1 hs hb
  replace B := B.on hb
  have ce0 := B.cell (i := 0) (v := .string ⟨#[]⟩) rfl
  have ce1 := B.cell (i := 1) (v := .string ⟨#[]⟩) rfl
  have cg0 := B.frozen 0
  have cg1 := B.frozen 1
  go_wp2_with fail
  obtain ⟨W, hW, y0, y1, hbe⟩ := ret_frac hs (by omega) B rn rd
  rw [hW]
  exact bodyPost_ret (v := .agg #[.string rn, .string rd]) (by simp [results, Tryz.results88, go_sem, y0, y1]) rfl ⟨rfl, hbe⟩
end Go.Proofs.YtndkglmokhndnaaGreatDoor
