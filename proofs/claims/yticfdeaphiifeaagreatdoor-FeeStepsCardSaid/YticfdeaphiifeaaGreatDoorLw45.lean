/- Fees: the examples of the chapter; quotients. No condition. -/
import Derived.Deep.RegionHeld3
import Derived.Test.YticfdeaphiifeaaGreatDoorFe13
import Derived.Test.YticfdeaphiifeaaGreatDoorPk
set_option maxHeartbeats 4000000
set_option maxRecDepth 100000
namespace Go.Proofs.YticfdeaphiifeaaGreatDoor
open Go.RowKit Go.Shelf Dec QQ
theorem of45_any {a b : ByteArray} {x y : Int} (h1 : Vs a x) (h2 : Vs b y) (s1 : a.size ≤ 1000) (s2 : b.size ≤ 1000) (hy : y ≠ 0) : Ret 58 #[.string a, .string b] (FR (rat x y)) := by
 intro w hg
 have hs := (St.refl hg).alloc (.cells #[.string ⟨#[]⟩, .string ⟨#[]⟩] 34)
 have B0 := Bx.new w #[.string ⟨#[]⟩, .string ⟨#[]⟩] 34
 have K3 := NewF h1 h2 (by omega) (by omega) hy
 unfold FR at K3 ⊢
 generalize frN (rat x y) = rn at *
 generalize frD (rat x y) = rd at *
 go_enter Tryz.func58, Tryz.ntmps58
 go_wp2_with fail
 refine K3.step hs ?_
 intro w3 hs hb
 have B := (B0.on hb).alloc (.cells #[.string rn, .string rd] 34)
 have hs := hs.alloc (.cells #[.string rn, .string rd] 34)
 have ce0 := B.cell (i := 0) (v := .string ⟨#[]⟩) rfl
 have ce1 := B.cell (i := 1) (v := .string ⟨#[]⟩) rfl
 have cg0 := B.frozen 0
 have cg1 := B.frozen 1
 go_wp2_with fail
 obtain ⟨W, hW, y0, y1, hbe⟩ := ret_frac hs (by omega) B rn rd
 rw [hW]
 exact bodyPost_ret (v := .agg #[.string rn, .string rd]) (by simp [results, Tryz.results58, go_sem, y0, y1]) rfl ⟨rfl, hbe⟩
theorem v45_1 : Vs ⟨#[49]⟩ 1 := ⟨by decide, by decide⟩
theorem v45_100 : Vs ⟨#[49, 48, 48]⟩ 100 := ⟨by decide, by decide⟩
theorem v45_5 : Vs ⟨#[53]⟩ 5 := ⟨by decide, by decide⟩
theorem v45_10 : Vs ⟨#[49, 48]⟩ 10 := ⟨by decide, by decide⟩
theorem v45_54 : Vs ⟨#[53, 52]⟩ 54 := ⟨by decide, by decide⟩
def T45 : TermS := ⟨⟨#[49]⟩, ⟨#[49, 48, 48]⟩, ⟨#[49]⟩, ⟨#[53]⟩, 2⟩
theorem fr45 (n d : Int) (a b : ByteArray) (h1 : frN (rat n d) = a) (h2 : frD (rat n d) = b) : FR (rat n d) = .agg #[.string a, .string b] := by unfold FR; rw [h1, h2]
theorem aw45m : manE T45 ⟨#[55, 51, 48, 48, 48]⟩ 19723 19773 = 0 ∧ manR T45 ⟨#[55, 51, 48, 48, 48]⟩ 19723 19773 = ⟨#[49, 48, 48]⟩ := ⟨by decide +kernel, by decide +kernel⟩
theorem aw45p : pfE T45 ⟨#[49, 49, 48, 48]⟩ ⟨#[49, 48, 48]⟩ ⟨#[49, 48]⟩ ⟨#[]⟩ = 0 ∧ pfR T45 ⟨#[49, 49, 48, 48]⟩ ⟨#[49, 48, 48]⟩ ⟨#[49, 48]⟩ ⟨#[]⟩ = ⟨#[50, 48]⟩ ∧ FR (pfQ T45 ⟨#[49, 49, 48, 48]⟩ ⟨#[49, 48, 48]⟩ ⟨#[49, 48]⟩ ⟨#[]⟩) = .agg #[.string ⟨#[53, 52]⟩, .string ⟨#[53]⟩] :=
 ⟨by decide +kernel, by decide +kernel, by unfold FR; rw [show frN (pfQ T45 ⟨#[49, 49, 48, 48]⟩ ⟨#[49, 48, 48]⟩ ⟨#[49, 48]⟩ ⟨#[]⟩) = ⟨#[53, 52]⟩ from by decide +kernel, show frD (pfQ T45 ⟨#[49, 49, 48, 48]⟩ ⟨#[49, 48, 48]⟩ ⟨#[49, 48]⟩ ⟨#[]⟩) = ⟨#[53]⟩ from by decide +kernel]⟩
theorem aw45q : pfE T45 ⟨#[57, 48, 48]⟩ ⟨#[49, 48, 48]⟩ ⟨#[49, 48]⟩ ⟨#[]⟩ = 0 ∧ pfR T45 ⟨#[57, 48, 48]⟩ ⟨#[49, 48, 48]⟩ ⟨#[49, 48]⟩ ⟨#[]⟩ = ⟨#[]⟩ ∧ FR (pfQ T45 ⟨#[57, 48, 48]⟩ ⟨#[49, 48, 48]⟩ ⟨#[49, 48]⟩ ⟨#[]⟩) = .agg #[.string ⟨#[49, 48]⟩, .string ⟨#[]⟩] :=
 ⟨by decide +kernel, by decide +kernel, by unfold FR; rw [show frN (pfQ T45 ⟨#[57, 48, 48]⟩ ⟨#[49, 48, 48]⟩ ⟨#[49, 48]⟩ ⟨#[]⟩) = ⟨#[49, 48]⟩ from by decide +kernel, show frD (pfQ T45 ⟨#[57, 48, 48]⟩ ⟨#[49, 48, 48]⟩ ⟨#[49, 48]⟩ ⟨#[]⟩) = ⟨#[]⟩ from by decide +kernel]⟩
theorem Bx.below {w w' : World} {b : Nat} {cs : Array Value} (h : Bx w b cs) (hb : Below w.heap.size w w') : Bx w' b cs := h.on hb
theorem awake45 : Ret 22 #[] (.bool true) := by
  intro w hg
  have hs := St.refl hg
  have KO1 := of45_any (a := ⟨#[49]⟩) (b := ⟨#[49, 48, 48]⟩) (x := 1) (y := 100) v45_1 v45_100 (by decide) (by decide) (by decide)
  rw [fr45 1 100 ⟨#[49]⟩ ⟨#[49, 48, 48]⟩ (by decide +kernel) (by decide +kernel)] at KO1
  have KO2 := of45_any (a := ⟨#[49]⟩) (b := ⟨#[53]⟩) (x := 1) (y := 5) v45_1 v45_5 (by decide) (by decide) (by decide)
  rw [fr45 1 5 ⟨#[49]⟩ ⟨#[53]⟩ (by decide +kernel) (by decide +kernel)] at KO2
  have KO3 := of45_any (a := ⟨#[49, 48]⟩) (b := ⟨#[49]⟩) (x := 10) (y := 1) v45_10 v45_1 (by decide) (by decide) (by decide)
  rw [fr45 10 1 ⟨#[49, 48]⟩ ⟨#[]⟩ (by decide +kernel) (by decide +kernel)] at KO3
  have KO4 := of45_any (a := ⟨#[53, 52]⟩) (b := ⟨#[53]⟩) (x := 54) (y := 5) v45_54 v45_5 (by decide) (by decide) (by decide)
  rw [fr45 54 5 ⟨#[53, 52]⟩ ⟨#[53]⟩ (by decide +kernel) (by decide +kernel)] at KO4
  have KM := man_any (T := T45) ⟨by decide, by decide, by decide, by decide⟩ (v := ⟨#[55, 51, 48, 48, 48]⟩) (by decide) 19723 19773
  rw [aw45m.1, aw45m.2] at KM
  have KP := pft_any (T := T45) ⟨by decide, by decide, by decide, by decide⟩ (v := ⟨#[49, 49, 48, 48]⟩) (u := ⟨#[49, 48, 48]⟩) (kn := ⟨#[49, 48]⟩) (kd := ⟨#[]⟩) (by decide) (by decide) (by decide) (by decide)
  rw [aw45p.1, aw45p.2.1, aw45p.2.2] at KP
  have KQ := pft_any (T := T45) ⟨by decide, by decide, by decide, by decide⟩ (v := ⟨#[57, 48, 48]⟩) (u := ⟨#[49, 48, 48]⟩) (kn := ⟨#[49, 48]⟩) (kd := ⟨#[]⟩) (by decide) (by decide) (by decide) (by decide)
  rw [aw45q.1, aw45q.2.1, aw45q.2.2] at KQ
  unfold FV at KP KQ
  change Ret _ #[.agg #[.string ⟨#[49]⟩, .string ⟨#[49, 48, 48]⟩, .string ⟨#[49]⟩, .string ⟨#[53]⟩, .int .i64 2], _, _] _ at KM
  change Ret _ #[.agg #[.string ⟨#[49]⟩, .string ⟨#[49, 48, 48]⟩, .string ⟨#[49]⟩, .string ⟨#[53]⟩, .int .i64 2], _, _, _] _ at KP
  change Ret _ #[.agg #[.string ⟨#[49]⟩, .string ⟨#[49, 48, 48]⟩, .string ⟨#[49]⟩, .string ⟨#[53]⟩, .int .i64 2], _, _, _] _ at KQ
  go_enter Tryz.func22, Tryz.ntmps22
  go_wp2_with fail
  refine KO1.step hs ?_
  intro w1 hs hb
  go_wp2_with fail
  refine KO2.step hs ?_
  intro w2 hs hb
  have XT := Bx.new w2 #[.string ⟨#[49]⟩, .string ⟨#[49, 48, 48]⟩, .string ⟨#[49]⟩, .string ⟨#[53]⟩, .int .i64 2] 44
  replace hs := hs.alloc (.cells #[.string ⟨#[49]⟩, .string ⟨#[49, 48, 48]⟩, .string ⟨#[49]⟩, .string ⟨#[53]⟩, .int .i64 2] 44)
  go_wp2_with fail
  obtain ⟨bT, hbT⟩ : ∃ b, w2.heap.size = b := ⟨_, rfl⟩
  rw [hbT] at XT ⊢
  have t0 := XT.cell (i := 0) (v := .string ⟨#[49]⟩) rfl
  have t1 := XT.cell (i := 1) (v := .string ⟨#[49, 48, 48]⟩) rfl
  have t2 := XT.cell (i := 2) (v := .string ⟨#[49]⟩) rfl
  have t3 := XT.cell (i := 3) (v := .string ⟨#[53]⟩) rfl
  have t4 := XT.cell (i := 4) (v := .int .i64 2) rfl
  generalize w2.alloc (.cells #[.string ⟨#[49]⟩, .string ⟨#[49, 48, 48]⟩, .string ⟨#[49]⟩, .string ⟨#[53]⟩, .int .i64 2] 44) = W2 at *
  clear hbT
  try go_wp2_with fail
  refine KM.step hs ?_
  intro W3 hsX hb
  replace XT := XT.on hb
  clear t0 t1 t2 t3 t4 hb hs
  go_wp2_with fail
  have HSOK : Hid (∀ w' : World, Below W3.heap.size W3 w' → w'.cell? ⟨bT, 0, none⟩ = some (.string ⟨#[49]⟩) ∧ w'.cell? ⟨bT, 1, none⟩ = some (.string ⟨#[49, 48, 48]⟩) ∧ w'.cell? ⟨bT, 2, none⟩ = some (.string ⟨#[49]⟩) ∧ w'.cell? ⟨bT, 3, none⟩ = some (.string ⟨#[53]⟩) ∧ w'.cell? ⟨bT, 4, none⟩ = some (.int .i64 2)) := fun w' hb => ⟨(XT.below hb).cell (i := 0) rfl, (XT.below hb).cell (i := 1) rfl, (XT.below hb).cell (i := 2) rfl, (XT.below hb).cell (i := 3) rfl, (XT.below hb).cell (i := 4) rfl⟩
  have e3 : W3.drew.heap.size = W3.heap.size := rfl
  have low0 : Below W3.heap.size W3 W3 := Below.refl _ _
  have sX := HSOK.out _ low0
  go_region_held3 (fun w' => w'.cell? ⟨bT, 0, none⟩ = some (.string ⟨#[49]⟩) ∧ w'.cell? ⟨bT, 1, none⟩ = some (.string ⟨#[49, 48, 48]⟩) ∧ w'.cell? ⟨bT, 2, none⟩ = some (.string ⟨#[49]⟩) ∧ w'.cell? ⟨bT, 3, none⟩ = some (.string ⟨#[53]⟩) ∧ w'.cell? ⟨bT, 4, none⟩ = some (.int .i64 2))
    (first
      | (with_reducible exact sB)
      | (with_reducible exact sA)
      | (with_reducible exact sX)
      | exact HSOK.out _ (lowB.alloc lowB.size _)
      | exact HSOK.out _ (lowA.alloc lowA.size _)
      | exact HSOK.out _ (low0.alloc low0.size _)
      | exact HSOK.out _ low0.drew
      | exact HSOK.out _ (low0.alloc low0.size _).drew
      | exact HSOK.out _ (low0.drew.alloc low0.drew.size _)
      | exact HSOK.out _ (pk_set ZZ ⟨#[53, 52]⟩ ⟨#[53]⟩).low
      | exact HSOK.out _ (pk_set (pk_new lowB) ⟨#[53, 52]⟩ ⟨#[53]⟩).low
      | exact HSOK.out _ (pk_alloc (n := ⟨#[53, 52]⟩) (d := ⟨#[53]⟩) lowB).low
      | (go_keep; done))
    (first
      | (go_at_call 58
         with_reducible refine KO3.step (by first | with_reducible exact hsX.drew | with_reducible exact hsX | with_reducible exact (hsX.alloc _).drew | with_reducible exact hsX.alloc _) ?_
         intro wA hsA hbA
         have lowA : Below W3.heap.size W3 wA := (by first | with_reducible exact low0.trans (hbA.mono low0.size) | exact low0.drew.trans (hbA.mono low0.drew.size) | exact (low0.alloc low0.size _).trans (hbA.mono (by rw [World.size_alloc]; have := low0.size; omega)) | exact (low0.alloc low0.size _).drew.trans (hbA.mono (by show _ ≤ (World.alloc _ _).heap.size; rw [World.size_alloc]; have := low0.size; omega)))
         have sA := HSOK.out _ lowA
         (first | have ZZ := pk_on ZZ hbA | have ZZ := pk_on (pk_new low0) hbA | have ZZ := pk_on (pk_drew (pk_new low0)) hbA | skip)
         (try have zz0 := ZZ.z.cell (i := 0) (v := .string ⟨#[]⟩) rfl)
         (try have zz1 := ZZ.z.cell (i := 1) (v := .string ⟨#[]⟩) rfl)
         (try have zf0 := ZZ.z.frozen 0)
         (try have zf1 := ZZ.z.frozen 1))
      | (go_at_call 30
         with_reducible refine KP.step (by first | with_reducible exact hsA.drew | with_reducible exact hsA | with_reducible exact (hsA.alloc _).drew | with_reducible exact hsA.alloc _) ?_
         intro wB hsB hbB
         have lowB : Below W3.heap.size W3 wB := (by first | with_reducible exact lowA.trans (hbB.mono lowA.size) | exact lowA.drew.trans (hbB.mono lowA.drew.size) | exact (lowA.alloc lowA.size _).trans (hbB.mono (by rw [World.size_alloc]; have := lowA.size; omega)) | exact (lowA.alloc lowA.size _).drew.trans (hbB.mono (by show _ ≤ (World.alloc _ _).heap.size; rw [World.size_alloc]; have := lowA.size; omega)))
         have sB := HSOK.out _ lowB
         (first | have ZZ := pk_on ZZ hbB | have ZZ := pk_on (pk_new lowA) hbB | have ZZ := pk_on (pk_drew (pk_new lowA)) hbB | skip)
         (try have zz0 := ZZ.z.cell (i := 0) (v := .string ⟨#[]⟩) rfl)
         (try have zz1 := ZZ.z.cell (i := 1) (v := .string ⟨#[]⟩) rfl)
         (try have zf0 := ZZ.z.frozen 0)
         (try have zf1 := ZZ.z.frozen 1)))
  all_goals
    first
      | (have P := pk_set (bz := wA.heap.size) ZZ ⟨#[53, 52]⟩ ⟨#[53]⟩; generalize (wB.setCell ⟨wA.heap.size, 0, none⟩ (.string ⟨#[53, 52]⟩)).setCell ⟨wA.heap.size, 1, none⟩ (.string ⟨#[53]⟩) = W4 at P ⊢; generalize wA.heap.size = bz at P ⊢)
      | (have P := pk_set (bz := W3.heap.size) ZZ ⟨#[53, 52]⟩ ⟨#[53]⟩; generalize (wB.setCell ⟨W3.heap.size, 0, none⟩ (.string ⟨#[53, 52]⟩)).setCell ⟨W3.heap.size, 1, none⟩ (.string ⟨#[53]⟩) = W4 at P ⊢; generalize W3.heap.size = bz at P ⊢)
      | (have P := pk_alloc (n := ⟨#[53, 52]⟩) (d := ⟨#[53]⟩) lowB; generalize wB.alloc (.cells #[.string ⟨#[53, 52]⟩, .string ⟨#[53]⟩] 34) = W4 at P ⊢; generalize wB.heap.size = bz at P ⊢)
  all_goals
    have hs4 := hsX.on P.low
    have XT4 := XT.on P.low
    have XA := P.z
    clear e3 sX HSOK
    go_wp2_with fail
    have HSOK2 : Hid (∀ w' : World, Below W4.heap.size W4 w' → w'.cell? ⟨bT, 0, none⟩ = some (.string ⟨#[49]⟩) ∧ w'.cell? ⟨bT, 1, none⟩ = some (.string ⟨#[49, 48, 48]⟩) ∧ w'.cell? ⟨bT, 2, none⟩ = some (.string ⟨#[49]⟩) ∧ w'.cell? ⟨bT, 3, none⟩ = some (.string ⟨#[53]⟩) ∧ w'.cell? ⟨bT, 4, none⟩ = some (.int .i64 2)) := fun w' hb => ⟨(XT4.below hb).cell (i := 0) rfl, (XT4.below hb).cell (i := 1) rfl, (XT4.below hb).cell (i := 2) rfl, (XT4.below hb).cell (i := 3) rfl, (XT4.below hb).cell (i := 4) rfl⟩
    have e3 : W4.drew.heap.size = W4.heap.size := rfl
    have low0 : Below W4.heap.size W4 W4 := Below.refl _ _
    have sX := HSOK2.out _ low0
    go_region_held3 (fun w' => w'.cell? ⟨bT, 0, none⟩ = some (.string ⟨#[49]⟩) ∧ w'.cell? ⟨bT, 1, none⟩ = some (.string ⟨#[49, 48, 48]⟩) ∧ w'.cell? ⟨bT, 2, none⟩ = some (.string ⟨#[49]⟩) ∧ w'.cell? ⟨bT, 3, none⟩ = some (.string ⟨#[53]⟩) ∧ w'.cell? ⟨bT, 4, none⟩ = some (.int .i64 2))
      (first
        | (with_reducible exact sB)
        | (with_reducible exact sA)
        | (with_reducible exact sX)
        | exact HSOK2.out _ (lowB.alloc lowB.size _)
        | exact HSOK2.out _ (lowA.alloc lowA.size _)
        | exact HSOK2.out _ (low0.alloc low0.size _)
        | exact HSOK2.out _ low0.drew
        | exact HSOK2.out _ (low0.alloc low0.size _).drew
        | exact HSOK2.out _ (low0.drew.alloc low0.drew.size _)
        | exact HSOK2.out _ (pk_set ZZ ⟨#[49, 48]⟩ ⟨#[]⟩).low
        | exact HSOK2.out _ (pk_set (pk_new lowB) ⟨#[49, 48]⟩ ⟨#[]⟩).low
        | exact HSOK2.out _ (pk_alloc (n := ⟨#[49, 48]⟩) (d := ⟨#[]⟩) lowB).low
        | (go_keep; done))
      (first
        | (go_at_call 58
           with_reducible refine KO3.step (by first | with_reducible exact hs4.drew | with_reducible exact hs4 | with_reducible exact (hs4.alloc _).drew | with_reducible exact hs4.alloc _) ?_
           intro wA hsA hbA
           have lowA : Below W4.heap.size W4 wA := (by first | with_reducible exact low0.trans (hbA.mono low0.size) | exact low0.drew.trans (hbA.mono low0.drew.size) | exact (low0.alloc low0.size _).trans (hbA.mono (by rw [World.size_alloc]; have := low0.size; omega)) | exact (low0.alloc low0.size _).drew.trans (hbA.mono (by show _ ≤ (World.alloc _ _).heap.size; rw [World.size_alloc]; have := low0.size; omega)))
           have sA := HSOK2.out _ lowA
           (first | have ZZ := pk_on ZZ hbA | have ZZ := pk_on (pk_new low0) hbA | have ZZ := pk_on (pk_drew (pk_new low0)) hbA | skip)
           (try have zz0 := ZZ.z.cell (i := 0) (v := .string ⟨#[]⟩) rfl)
           (try have zz1 := ZZ.z.cell (i := 1) (v := .string ⟨#[]⟩) rfl)
           (try have zf0 := ZZ.z.frozen 0)
           (try have zf1 := ZZ.z.frozen 1))
        | (go_at_call 30
           with_reducible refine KQ.step (by first | with_reducible exact hsA.drew | with_reducible exact hsA | with_reducible exact (hsA.alloc _).drew | with_reducible exact hsA.alloc _) ?_
           intro wB hsB hbB
           have lowB : Below W4.heap.size W4 wB := (by first | with_reducible exact lowA.trans (hbB.mono lowA.size) | exact lowA.drew.trans (hbB.mono lowA.drew.size) | exact (lowA.alloc lowA.size _).trans (hbB.mono (by rw [World.size_alloc]; have := lowA.size; omega)) | exact (lowA.alloc lowA.size _).drew.trans (hbB.mono (by show _ ≤ (World.alloc _ _).heap.size; rw [World.size_alloc]; have := lowA.size; omega)))
           have sB := HSOK2.out _ lowB
           (first | have ZZ := pk_on ZZ hbB | have ZZ := pk_on (pk_new lowA) hbB | have ZZ := pk_on (pk_drew (pk_new lowA)) hbB | skip)
           (try have zz0 := ZZ.z.cell (i := 0) (v := .string ⟨#[]⟩) rfl)
           (try have zz1 := ZZ.z.cell (i := 1) (v := .string ⟨#[]⟩) rfl)
           (try have zf0 := ZZ.z.frozen 0)
           (try have zf1 := ZZ.z.frozen 1)))
    all_goals
      first
        | (have P2 := pk_set (bz := wA.heap.size) ZZ ⟨#[49, 48]⟩ ⟨#[]⟩; generalize (wB.setCell ⟨wA.heap.size, 0, none⟩ (.string ⟨#[49, 48]⟩)).setCell ⟨wA.heap.size, 1, none⟩ (.string ⟨#[]⟩) = W5 at P2 ⊢; generalize wA.heap.size = by_ at P2 ⊢)
        | (have P2 := pk_set (bz := W4.heap.size) ZZ ⟨#[49, 48]⟩ ⟨#[]⟩; generalize (wB.setCell ⟨W4.heap.size, 0, none⟩ (.string ⟨#[49, 48]⟩)).setCell ⟨W4.heap.size, 1, none⟩ (.string ⟨#[]⟩) = W5 at P2 ⊢; generalize W4.heap.size = by_ at P2 ⊢)
        | (have P2 := pk_alloc (n := ⟨#[49, 48]⟩) (d := ⟨#[]⟩) lowB; generalize wB.alloc (.cells #[.string ⟨#[49, 48]⟩, .string ⟨#[]⟩] 34) = W5 at P2 ⊢; generalize wB.heap.size = by_ at P2 ⊢)
    all_goals
      have hs5 := hs4.on P2.low
      have XA5 := XA.on P2.low
      have XB5 := P2.z
      clear e3 sX HSOK2
      go_wp2_with fail
      have HSOK3 : Hid (∀ w' : World, Below W5.heap.size W5 w' → w'.cell? ⟨bz, 0, none⟩ = some (.string ⟨#[53, 52]⟩) ∧ w'.cell? ⟨bz, 1, none⟩ = some (.string ⟨#[53]⟩) ∧ w'.cell? ⟨by_, 0, none⟩ = some (.string ⟨#[49, 48]⟩) ∧ w'.cell? ⟨by_, 1, none⟩ = some (.string ⟨#[]⟩)) := fun w' hb => ⟨(XA5.below hb).cell (i := 0) rfl, (XA5.below hb).cell (i := 1) rfl, (XB5.below hb).cell (i := 0) rfl, (XB5.below hb).cell (i := 1) rfl⟩
      have low0 : Below W5.heap.size W5 W5 := Below.refl _ _
      have sX := HSOK3.out _ low0
      go_region_held3 (fun w' => w'.cell? ⟨bz, 0, none⟩ = some (.string ⟨#[53, 52]⟩) ∧ w'.cell? ⟨bz, 1, none⟩ = some (.string ⟨#[53]⟩) ∧ w'.cell? ⟨by_, 0, none⟩ = some (.string ⟨#[49, 48]⟩) ∧ w'.cell? ⟨by_, 1, none⟩ = some (.string ⟨#[]⟩))
        (first
          | (with_reducible exact sB)
          | (with_reducible exact sA)
          | (with_reducible exact sX)
          | exact HSOK3.out _ lowB.drew
          | exact HSOK3.out _ lowA.drew
          | exact HSOK3.out _ low0.drew
          | (go_keep; done))
        (first
          | (go_at_call 58
             with_reducible refine KO4.step (by first | with_reducible exact hs5.drew | with_reducible exact hs5) ?_
             intro wA hsA hbA
             have lowA : Below W5.heap.size W5 wA := (by first | with_reducible exact low0.trans (hbA.mono low0.size) | exact low0.drew.trans (hbA.mono low0.drew.size))
             have sA := HSOK3.out _ lowA)
          | (go_at_call 58
             with_reducible refine KO3.step (by first | with_reducible exact hsA.drew | with_reducible exact hsA) ?_
             intro wB hsB hbB
             have lowB : Below W5.heap.size W5 wB := (by first | with_reducible exact lowA.trans (hbB.mono lowA.size) | exact lowA.drew.trans (hbB.mono lowA.drew.size))
             have sB := HSOK3.out _ lowB))
      all_goals
        go_wp2_with fail
        go_ret
        exact ⟨rfl, hsB.2⟩
end Go.Proofs.YticfdeaphiifeaaGreatDoor
