/- Unit prices: Return. Condition: strings of bounded length. -/
import Derived.Test.YtpipkeplhkccoaaGreatDoorHol
import Derived.Test.YtpipkeplhkccoaaGreatDoorRjg
import Derived.Test.YtpipkeplhkccoaaGreatDoorCkg
import Derived.Test.YtpipkeplhkccoaaGreatDoorPk
namespace Go.Proofs.YtpipkeplhkccoaaGreatDoor
open Go.RowKit Go.Shelf Dec QQ SP

theorem ucheck_zero {l : List ByteArray} (h : ucheck l = 0) : ∀ s ∈ l, chk s = 0 ∧ 0 ≤ valS s := by
  unfold ucheck at h
  split at h
  · omega
  · rename_i h1
    split at h
    · omega
    · rename_i h2
      intro s hs
      simp at h1 h2
      have a := h1 s hs
      have b := h2 s hs
      exact ⟨by omega, by omega⟩
theorem val_ne {s : ByteArray} (h : chk s = 0) (h0 : isNil s = false) : valS s ≠ 0 := by
  intro hv
  have e := chk_eq h
  rw [hv] at e
  have h3 : isNil s = true := isNil_iff.2 (by rw [← e]; decide +kernel)
  rw [h0] at h3
  cases h3
/-- four numbers, as a value -/
structure Dn where
  a : ByteArray
  b : ByteArray
  c : ByteArray
  d : ByteArray
def Dn.l (x : Dn) : List ByteArray := [x.a, x.b, x.c, x.d]
def Dn.cells (x : Dn) : Array Value := #[.string x.a, .string x.b, .string x.c, .string x.d]
def Dn.v (x : Dn) : Value := .agg x.cells
def reE (x y : Dn) : Int := if ucheck (x.l ++ y.l) ≠ 0 then ucheck (x.l ++ y.l) else if x.c = nil ∨ y.c = nil ∨ x.d = nil then 10 else 0
def reQ (x y : Dn) : Rat := if reE x y = 0 then rat (valS y.d * valS x.c) (valS y.c * valS x.d) else 0
structure RT (w : World) (x y : Dn) (b2 b3 b4 : Nat) (W : World) : Prop where
  st : St w W
  x : Bx W b2 x.cells
  y : Bx W b3 y.cells
  z : Bx W b4 #[.string ⟨#[]⟩, .string ⟨#[]⟩]
  lo : w.heap.size ≤ b4
theorem RT.up {w : World} {x y : Dn} {b2 b3 b4 : Nat} {W W' : World} (h : RT w x y b2 b3 b4 W) (hb : Below W.heap.size W W') : RT w x y b2 b3 b4 W' := ⟨h.st.on hb, h.x.on hb, h.y.on hb, h.z.on hb, h.lo⟩
theorem RT.drew {w : World} {x y : Dn} {b2 b3 b4 : Nat} {W : World} (h : RT w x y b2 b3 b4 W) : RT w x y b2 b3 b4 W.drew := h.up (Below.refl _ _).drew
theorem RT.alloc {w : World} {x y : Dn} {b2 b3 b4 : Nat} {W : World} (h : RT w x y b2 b3 b4 W) (o : Obj) : RT w x y b2 b3 b4 (W.alloc o) := h.up ((Below.refl _ _).alloc (Nat.le_refl _) _)
theorem numbersD (x : Dn) (w : World) :
    Calls Tryz.prog 44 #[.agg #[.string x.a, .string x.b, .string x.c, .string x.d]] w fun e w' => ∃ B, e = .returned (.slice (some ⟨B, 0, none⟩) 4 4) ∧ Row w' (some ⟨B, 0, none⟩) (flatG bcells x.l) ∧ Below w.heap.size w w' := by
  have := numbers4 x.a x.b x.c x.d w
  rwa [← flat_b] at this
set_option maxRecDepth 100000 in
set_option maxHeartbeats 4000000 in
theorem return_any {x y : Dn} {k0 : Nat} (hk0 : k0 ≤ 1000) (hx : ∀ s ∈ x.l, s.size ≤ k0) (hy : ∀ s ∈ y.l, s.size ≤ k0) : Ret 14 #[x.v, y.v] (.tuple #[FR (reQ x y), .int .i64 (reE x y)]) := by
  intro w hg
  have hlz : ∀ s ∈ x.l ++ y.l, s.size ≤ 1000000 := fun s hs => by
    rcases List.mem_append.1 hs with h | h
    · have := hx s h; omega
    · have := hy s h; omega
  have KN1 := Lib.hid (fun (u : World) => numbersD x u)
  have KN2 := Lib.hid (fun (u : World) => numbersD y u)
  have KC := Lib.hid (fun (B B' bb : Nat) (u : World) (hg : Gl u) (hB : Bx u bb #[.slice (some ⟨B, 0, none⟩) 4 4, .slice (some ⟨B', 0, none⟩) 4 4]) (h1 : Row u (some ⟨B, 0, none⟩) (flatG bcells x.l)) (h2 : Row u (some ⟨B', 0, none⟩) (flatG bcells y.l)) => concatI (xs := x.l) (ys := y.l) (p := 4) (q := 4) rfl rfl (by decide) (by decide) u hg hB h1 h2)
  have KU := Lib.hid (fun (A2 : Option Addr) (c2 : Nat) => ucheck_any (A := A2) (c := c2) (n := 8) (l := x.l ++ y.l) rfl (by omega) hlz)
  have HE : Hid (reE x y = if ucheck (x.l ++ y.l) ≠ 0 then ucheck (x.l ++ y.l) else if x.c = nil ∨ y.c = nil ∨ x.d = nil then 10 else 0) := rfl
  have HQ : Hid (reQ x y = if reE x y = 0 then rat (valS y.d * valS x.c) (valS y.c * valS x.d) else 0) := rfl
  have P0 : Hid (RT w x y w.heap.size (w.heap.size + 1) (w.heap.size + 1 + 1) (((w.alloc (.cells x.cells 24)).alloc (.cells y.cells 24)).alloc (.cells #[.string ⟨#[]⟩, .string ⟨#[]⟩] 36))) := by
    have h1 := (((St.refl hg).alloc (.cells x.cells 24)).alloc (.cells y.cells 24)).alloc (.cells #[.string ⟨#[]⟩, .string ⟨#[]⟩] 36)
    have h2 := Bx.new (w.alloc (.cells x.cells 24)) y.cells 24
    have h3 := Bx.new ((w.alloc (.cells x.cells 24)).alloc (.cells y.cells 24)) #[.string ⟨#[]⟩, .string ⟨#[]⟩] 36
    rw [World.size_alloc] at h2
    rw [World.size_alloc, World.size_alloc] at h3
    exact ⟨h1, ((Bx.new w _ _).alloc _).alloc _, h2.alloc _, h3, by omega⟩
  obtain ⟨ee, hee⟩ : ∃ e, reE x y = e := ⟨_, rfl⟩
  obtain ⟨qq, hqq⟩ : ∃ e, reQ x y = e := ⟨_, rfl⟩
  rw [hee] at HE HQ
  rw [hqq] at HQ
  rw [hee, hqq]
  unfold FR
  obtain ⟨qn, hqn⟩ : ∃ e, frN qq = e := ⟨_, rfl⟩
  obtain ⟨qd, hqd⟩ : ∃ e, frD qq = e := ⟨_, rfl⟩
  rw [hqn, hqd]
  have HQF := Lib.hid (And.intro hqn hqd)
  clear hqn hqd
  have hsx : x.c.size ≤ k0 ∧ x.d.size ≤ k0 := ⟨hx _ (by simp [Dn.l]), hx _ (by simp [Dn.l])⟩
  have hsy : y.c.size ≤ k0 ∧ y.d.size ≤ k0 := ⟨hy _ (by simp [Dn.l]), hy _ (by simp [Dn.l])⟩
  obtain ⟨uu, huu⟩ : ∃ e, ucheck (x.l ++ y.l) = e := ⟨_, rfl⟩
  rw [huu] at HE KU
  have HUU := Lib.hid huu
  clear hee hqq hlz hx hy huu
  go_enter Tryz.func14, Tryz.ntmps14
  have a0 := P0.out.x.cell (i := 0) (v := .string x.a) rfl
  have a1 := P0.out.x.cell (i := 1) (v := .string x.b) rfl
  have a2 := P0.out.x.cell (i := 2) (v := .string x.c) rfl
  have a3 := P0.out.x.cell (i := 3) (v := .string x.d) rfl
  have e0 := P0.out.y.cell (i := 0) (v := .string y.a) rfl
  have e1 := P0.out.y.cell (i := 1) (v := .string y.b) rfl
  have e2 := P0.out.y.cell (i := 2) (v := .string y.c) rfl
  have e3 := P0.out.y.cell (i := 3) (v := .string y.d) rfl
  unfold Dn.v
  unfold Dn.cells at *
  go_wp2_with fail
  obtain ⟨b4, h4⟩ : ∃ b, w.heap.size + 1 + 1 = b := ⟨_, rfl⟩
  rw [h4] at P0 ⊢
  obtain ⟨b3, h3⟩ : ∃ b, w.heap.size + 1 = b := ⟨_, rfl⟩
  rw [h3] at P0 e0 e1 e2 e3 ⊢
  obtain ⟨b2, h2⟩ : ∃ b, w.heap.size = b := ⟨_, rfl⟩
  have PP := P0
  rw [h2] at PP a0 a1 a2 a3 ⊢
  clear P0
  generalize (((w.alloc (.cells #[.string x.a, .string x.b, .string x.c, .string x.d] 24)).alloc (.cells #[.string y.a, .string y.b, .string y.c, .string y.d] 24)).alloc (.cells #[.string ⟨#[]⟩, .string ⟨#[]⟩] 36)) = W0 at *
  clear h2 h3 h4
  go_cut [6] (fun y6 wx => y6 = .int .i64 uu ∧ Hid (RT w x y b2 b3 b4 wx))
  case first =>
    clear HE HQ hsx hsy HUU
    have HSOK : Hid (∀ w' : World, RT w x y b2 b3 b4 w' → w'.cell? ⟨b2, 0, none⟩ = some (.string x.a) ∧ w'.cell? ⟨b2, 1, none⟩ = some (.string x.b) ∧ w'.cell? ⟨b2, 2, none⟩ = some (.string x.c) ∧ w'.cell? ⟨b2, 3, none⟩ = some (.string x.d) ∧ w'.cell? ⟨b3, 0, none⟩ = some (.string y.a) ∧ w'.cell? ⟨b3, 1, none⟩ = some (.string y.b) ∧ w'.cell? ⟨b3, 2, none⟩ = some (.string y.c) ∧ w'.cell? ⟨b3, 3, none⟩ = some (.string y.d)) := fun w' h => ⟨h.x.cell (i := 0) rfl, h.x.cell (i := 1) rfl, h.x.cell (i := 2) rfl, h.x.cell (i := 3) rfl, h.y.cell (i := 0) rfl, h.y.cell (i := 1) rfl, h.y.cell (i := 2) rfl, h.y.cell (i := 3) rfl⟩
    have sX := HSOK.out _ PP.out
    clear a0 a1 a2 a3 e0 e1 e2 e3
    go_region_held3 (fun w' => w'.cell? ⟨b2, 0, none⟩ = some (.string x.a) ∧ w'.cell? ⟨b2, 1, none⟩ = some (.string x.b) ∧ w'.cell? ⟨b2, 2, none⟩ = some (.string x.c) ∧ w'.cell? ⟨b2, 3, none⟩ = some (.string x.d) ∧ w'.cell? ⟨b3, 0, none⟩ = some (.string y.a) ∧ w'.cell? ⟨b3, 1, none⟩ = some (.string y.b) ∧ w'.cell? ⟨b3, 2, none⟩ = some (.string y.c) ∧ w'.cell? ⟨b3, 3, none⟩ = some (.string y.d))
      (first
        | (with_reducible exact sD)
        | (with_reducible exact sC)
        | (with_reducible exact sB)
        | (with_reducible exact sA)
        | (with_reducible exact sX)
        | with_reducible exact HSOK.out _ (PD.out.drew)
        | with_reducible exact HSOK.out _ (PC.out.drew)
        | with_reducible exact HSOK.out _ (PB.out.alloc _)
        | with_reducible exact HSOK.out _ (PB.out.drew)
        | with_reducible exact HSOK.out _ (PA.out.drew)
        | with_reducible exact HSOK.out _ (PP.out.drew)
        | (go_keep; done))
      (first
        | (go_at_call 44
           with_reducible refine Calls.mono (KN1.out _) ?_
           rintro e wA ⟨B1, rfl, hrA, hbA⟩
           have PA := Lib.hid (show RT w x y b2 b3 b4 wA from by first | with_reducible exact PP.out.up hbA | exact PP.out.drew.up hbA)
           have RA := Lib.hid hrA
           have sA := HSOK.out _ PA.out)
        | (go_at_call 44
           with_reducible refine Calls.mono (KN2.out _) ?_
           rintro e wB ⟨B2, rfl, hrB, hbB⟩
           have PB := Lib.hid (show RT w x y b2 b3 b4 wB from by first | with_reducible exact PA.out.up hbB | exact PA.out.drew.up hbB)
           have RB := Lib.hid hrB
           have RA2 := Lib.hid (show Row wB (some ⟨B1, 0, none⟩) (flatG bcells x.l) from by first | with_reducible exact RA.out.on hbB | exact (RA.out.on (Below.refl _ _).drew).on hbB)
           have sB := HSOK.out _ PB.out)
        | (go_at_call 43
           first
             | with_reducible refine Calls.mono (KC.out B1 B2 wB.heap.size _ (PB.out.alloc _).st.gl (Bx.new _ _ _) (RA2.out.on ((Below.refl _ _).alloc (Nat.le_refl _) _)) (RB.out.on ((Below.refl _ _).alloc (Nat.le_refl _) _))) ?_
             | with_reducible refine Calls.mono (KC.out B1 B2 wB.heap.size _ (PB.out.drew.alloc _).st.gl (Bx.new _ _ _) ((RA2.out.on (Below.refl _ _).drew).on ((Below.refl _ _).alloc (Nat.le_refl _) _)) ((RB.out.on (Below.refl _ _).drew).on ((Below.refl _ _).alloc (Nat.le_refl _) _))) ?_
           rintro e wC ⟨v, rfl, hov, hbC⟩
           obtain ⟨A2, c2, rfl, hrow⟩ := hov.row
           have PC := Lib.hid (show RT w x y b2 b3 b4 wC from by first | exact (PB.out.alloc _).up hbC | exact (PB.out.drew.alloc _).up hbC)
           rw [flat_b] at hrow
           have RC := Lib.hid hrow
           have sC := HSOK.out _ PC.out)
        | (go_at_call 42
           first
             | with_reducible refine (KU.out A2 c2).step PC.out.st RC.out ?_
             | with_reducible refine (KU.out A2 c2).step PC.out.drew.st (RC.out.on (Below.refl _ _).drew) ?_
           intro wD hsD hbD
           have PD := Lib.hid (show RT w x y b2 b3 b4 wD from by first | with_reducible exact PC.out.up hbD | exact PC.out.drew.up hbD)
           have sD := HSOK.out _ PD.out))
    all_goals
      go_wp2_with fail
      go_meet
      first
        | exact ⟨rfl, PD.out⟩
        | exact ⟨rfl, PD.out.drew⟩
  case rest =>
  obtain ⟨rfl, HP⟩ := hcut
  clear PP KN1 KN2 KC KU a0 a1 a2 a3 e0 e1 e2 e3
  generalize wc = W1 at *
  by_cases h0 : uu = 0
  rotate_left 1
  · have e1 := HE.out
    rw [if_pos h0] at e1
    have e2 := HQ.out
    rw [if_neg (by rw [e1]; exact h0)] at e2
    have q : (uu != 0) = true := by simpa using h0
    have hf := HQF.out
    rw [e2, frN_zero, frD_zero] at hf
    obtain ⟨f1, f2⟩ := hf
    subst e1 f1 f2
    clear HE HQ h0 HUU HQF e2
    have B := HP.out.z
    have xB0 := B.cell (i := 0) (v := .string ⟨#[]⟩) rfl
    have fB0 := B.frozen 0
    have xB1 := B.cell (i := 1) (v := .string ⟨#[]⟩) rfl
    have fB1 := B.frozen 1
    go_wp2_with fail
    have C1 := ((B).set 0 (.string ⟨#[]⟩)).set 1 (.string ⟨#[]⟩)
    have y0 := C1.cell (i := 0) (v := .string ⟨#[]⟩) rfl
    have y1 := C1.cell (i := 1) (v := .string ⟨#[]⟩) rfl
    have hs4 := (HP.out.st.set (b := b4) HP.out.lo 0 (.string ⟨#[]⟩)).set (b := b4) HP.out.lo 1 (.string ⟨#[]⟩)
    exact bodyPost_ret (v := .tuple #[.agg #[.string ⟨#[]⟩, .string ⟨#[]⟩], .int .i64 (ee)]) (by simp [results, Tryz.results14, go_sem, y0, y1]) rfl ⟨rfl, hs4.2⟩
  have hE := HE.out
  rw [if_neg (by simp [h0])] at hE
  have hU := HUU.out
  rw [h0] at hU
  have hz := ucheck_zero hU
  have q : (uu != 0) = false := by rw [h0]; rfl
  have zxc := hz x.c (by simp [Dn.l])
  have zxd := hz x.d (by simp [Dn.l])
  have zyc := hz y.c (by simp [Dn.l])
  clear hz hU HUU HE
  subst h0
  have a2 := HP.out.x.cell (i := 2) (v := .string x.c) rfl
  have a3 := HP.out.x.cell (i := 3) (v := .string x.d) rfl
  have e2 := HP.out.y.cell (i := 2) (v := .string y.c) rfl
  have e3 := HP.out.y.cell (i := 3) (v := .string y.d) rfl
  obtain ⟨n1, hn1⟩ : ∃ t, isNil x.c = t := ⟨_, rfl⟩
  obtain ⟨n2, hn2⟩ : ∃ t, isNil y.c = t := ⟨_, rfl⟩
  obtain ⟨n3, hn3⟩ : ∃ t, isNil x.d = t := ⟨_, rfl⟩
  have hc : (x.c = nil ∨ y.c = nil ∨ x.d = nil) ↔ (n1 || n2 || n3) = true := by
    rw [← isNil_iff, ← isNil_iff, ← isNil_iff, hn1, hn2, hn3]
    simp [or_assoc]
  have hv : (n1 || n2 || n3) = false → valS y.c ≠ 0 ∧ valS x.d ≠ 0 := fun h => by
    simp at h
    exact ⟨val_ne zyc.1 (by rw [hn2]; exact h.1.2), val_ne zxd.1 (by rw [hn3]; exact h.2)⟩
  have ez : (n1 || n2 || n3) = true → ee = 10 ∧ qq = 0 := fun h => by
    have e1 : ee = 10 := by rw [hE, if_pos (hc.2 h)]
    exact ⟨e1, by rw [HQ.out, if_neg (by rw [e1]; decide)]⟩
  have en : (n1 || n2 || n3) = false → ee = 0 ∧ qq = rat (valS y.d * valS x.c) (valS y.c * valS x.d) := fun h => by
    have e1 : ee = 0 := by rw [hE, if_neg (fun hh => by rw [hc.1 hh] at h; cases h)]
    exact ⟨e1, by rw [HQ.out, if_pos e1]⟩
  unfold isNil at hn1 hn2 hn3
  clear hE HQ hc zxc zxd zyc
  obtain ⟨xa, xb, xc, xd⟩ := x
  obtain ⟨ya, yb, yc, yd⟩ := y
  dsimp only at *
  cases n1 with
  | true =>
    obtain ⟨r1, r2⟩ := ez rfl
    have hf := HQF.out
    rw [r2, frN_zero, frD_zero] at hf
    obtain ⟨f1, f2⟩ := hf
    subst r1 f1 f2
    clear ez en hv HQF r2
    have B := HP.out.z
    have xB0 := B.cell (i := 0) (v := .string ⟨#[]⟩) rfl
    have fB0 := B.frozen 0
    have xB1 := B.cell (i := 1) (v := .string ⟨#[]⟩) rfl
    have fB1 := B.frozen 1
    go_wp2_with fail
    have C1 := ((B).set 0 (.string ⟨#[]⟩)).set 1 (.string ⟨#[]⟩)
    have y0 := C1.cell (i := 0) (v := .string ⟨#[]⟩) rfl
    have y1 := C1.cell (i := 1) (v := .string ⟨#[]⟩) rfl
    have hs4 := (HP.out.st.set (b := b4) HP.out.lo 0 (.string ⟨#[]⟩)).set (b := b4) HP.out.lo 1 (.string ⟨#[]⟩)
    exact bodyPost_ret (v := .tuple #[.agg #[.string ⟨#[]⟩, .string ⟨#[]⟩], .int .i64 (10)]) (by simp [results, Tryz.results14, go_sem, y0, y1]) rfl ⟨rfl, hs4.2⟩
  | false =>
  cases n2 with
  | true =>
    obtain ⟨r1, r2⟩ := ez rfl
    have hf := HQF.out
    rw [r2, frN_zero, frD_zero] at hf
    obtain ⟨f1, f2⟩ := hf
    subst r1 f1 f2
    clear ez en hv HQF r2
    have B := HP.out.z
    have xB0 := B.cell (i := 0) (v := .string ⟨#[]⟩) rfl
    have fB0 := B.frozen 0
    have xB1 := B.cell (i := 1) (v := .string ⟨#[]⟩) rfl
    have fB1 := B.frozen 1
    go_wp2_with fail
    have C1 := ((B).set 0 (.string ⟨#[]⟩)).set 1 (.string ⟨#[]⟩)
    have y0 := C1.cell (i := 0) (v := .string ⟨#[]⟩) rfl
    have y1 := C1.cell (i := 1) (v := .string ⟨#[]⟩) rfl
    have hs4 := (HP.out.st.set (b := b4) HP.out.lo 0 (.string ⟨#[]⟩)).set (b := b4) HP.out.lo 1 (.string ⟨#[]⟩)
    exact bodyPost_ret (v := .tuple #[.agg #[.string ⟨#[]⟩, .string ⟨#[]⟩], .int .i64 (10)]) (by simp [results, Tryz.results14, go_sem, y0, y1]) rfl ⟨rfl, hs4.2⟩
  | false =>
  cases n3 with
  | true =>
    obtain ⟨r1, r2⟩ := ez rfl
    have hf := HQF.out
    rw [r2, frN_zero, frD_zero] at hf
    obtain ⟨f1, f2⟩ := hf
    subst r1 f1 f2
    clear ez en hv HQF r2
    have B := HP.out.z
    have xB0 := B.cell (i := 0) (v := .string ⟨#[]⟩) rfl
    have fB0 := B.frozen 0
    have xB1 := B.cell (i := 1) (v := .string ⟨#[]⟩) rfl
    have fB1 := B.frozen 1
    go_wp2_with fail
    have C1 := ((B).set 0 (.string ⟨#[]⟩)).set 1 (.string ⟨#[]⟩)
    have y0 := C1.cell (i := 0) (v := .string ⟨#[]⟩) rfl
    have y1 := C1.cell (i := 1) (v := .string ⟨#[]⟩) rfl
    have hs4 := (HP.out.st.set (b := b4) HP.out.lo 0 (.string ⟨#[]⟩)).set (b := b4) HP.out.lo 1 (.string ⟨#[]⟩)
    exact bodyPost_ret (v := .tuple #[.agg #[.string ⟨#[]⟩, .string ⟨#[]⟩], .int .i64 (10)]) (by simp [results, Tryz.results14, go_sem, y0, y1]) rfl ⟨rfl, hs4.2⟩
  | false =>
  obtain ⟨r1, r2⟩ := en rfl
  obtain ⟨v1, v2⟩ := hv rfl
  have hf := HQF.out
  rw [r2] at hf
  subst r1
  clear ez en hv HQF r2
  have KM1 := MulR (Vs.arg (s := yd) (by omega)) (Vs.arg (s := xc) (by omega))
  have KM2 := MulR (Vs.arg (s := yc) (by omega)) (Vs.arg (s := xd) (by omega))
  have f1 : Fit (k0 + k0) (valS yd * valS xc) := (Fit.val hsy.2).mul (Fit.val hsx.1)
  have f2 : Fit (k0 + k0) (valS yc * valS xd) := (Fit.val hsy.1).mul (Fit.val hsx.2)
  have KNw := NewF (Vs.can f1 (by omega)) (Vs.can f2 (by omega)) (by have := f1.size; omega) (by have := f2.size; omega) (Int.mul_ne_zero v1 v2)
  unfold FR at KNw
  rw [hf.1, hf.2] at KNw
  clear hf
  generalize canS (valS yd * valS xc) = m1 at *
  generalize canS (valS yc * valS xd) = m2 at *
  clear f1 f2 v1 v2 hsx hsy
  go_wp2_with fail
  go_cut [7, 8] (fun p e wx => ∃ bz, p = .pointer (some ⟨bz, 0, none⟩) ∧ e = .int .i64 0 ∧ Hid (Pk W1 wx bz #[.string qn, .string qd]))
  case first =>
    have HSOK : Hid (∀ w' : World, Below W1.heap.size W1 w' → w'.cell? ⟨b2, 2, none⟩ = some (.string xc) ∧ w'.cell? ⟨b2, 3, none⟩ = some (.string xd) ∧ w'.cell? ⟨b3, 2, none⟩ = some (.string yc) ∧ w'.cell? ⟨b3, 3, none⟩ = some (.string yd)) := fun w' h => ⟨(HP.out.up h).x.cell (i := 2) rfl, (HP.out.up h).x.cell (i := 3) rfl, (HP.out.up h).y.cell (i := 2) rfl, (HP.out.up h).y.cell (i := 3) rfl⟩
    have hs := HP.out.st
    have low0 : Below W1.heap.size W1 W1 := Below.refl _ _
    have sX := HSOK.out _ low0
    clear a2 a3 e2 e3
    go_region_held3 (fun w' => w'.cell? ⟨b2, 2, none⟩ = some (.string xc) ∧ w'.cell? ⟨b2, 3, none⟩ = some (.string xd) ∧ w'.cell? ⟨b3, 2, none⟩ = some (.string yc) ∧ w'.cell? ⟨b3, 3, none⟩ = some (.string yd))
      (first
        | (with_reducible exact sC)
        | (with_reducible exact sB)
        | (with_reducible exact sA)
        | (with_reducible exact sX)
        | exact HSOK.out _ (lowC.alloc lowC.size _)
        | exact HSOK.out _ (lowB.alloc lowB.size _)
        | exact HSOK.out _ (lowA.alloc lowA.size _)
        | exact HSOK.out _ (low0.alloc low0.size _)
        | exact HSOK.out _ low0.drew
        | exact HSOK.out _ (low0.alloc low0.size _).drew
        | exact HSOK.out _ (low0.drew.alloc low0.drew.size _)
        | exact HSOK.out _ (pk_set ZZ qn qd).low
        | exact HSOK.out _ (pk_set (pk_new lowC) qn qd).low
        | exact HSOK.out _ (pk_alloc (n := qn) (d := qd) lowC).low
        | (go_keep; done))
      (first
        | (go_at_call 52
           with_reducible refine KM1.step (by first | with_reducible exact hs.drew | with_reducible exact hs | with_reducible exact (hs.alloc _).drew | with_reducible exact hs.alloc _) ?_
           intro wA hsA hbA
           have lowA : Below W1.heap.size W1 wA := (by first | with_reducible exact low0.trans (hbA.mono low0.size) | exact low0.drew.trans (hbA.mono low0.drew.size) | exact (low0.alloc low0.size _).trans (hbA.mono (by rw [World.size_alloc]; have := low0.size; omega)) | exact (low0.alloc low0.size _).drew.trans (hbA.mono (by show _ ≤ (World.alloc _ _).heap.size; rw [World.size_alloc]; have := low0.size; omega)))
           have sA := HSOK.out _ lowA
           (first | have ZZ := pk_on ZZ hbA | have ZZ := pk_on (pk_new low0) hbA | have ZZ := pk_on (pk_drew (pk_new low0)) hbA | skip)
           (try have zz0 := ZZ.z.cell (i := 0) (v := .string ⟨#[]⟩) rfl)
           (try have zz1 := ZZ.z.cell (i := 1) (v := .string ⟨#[]⟩) rfl)
           (try have zf0 := ZZ.z.frozen 0)
           (try have zf1 := ZZ.z.frozen 1))
        | (go_at_call 52
           with_reducible refine KM2.step (by first | with_reducible exact hsA.drew | with_reducible exact hsA | with_reducible exact (hsA.alloc _).drew | with_reducible exact hsA.alloc _) ?_
           intro wB hsB hbB
           have lowB : Below W1.heap.size W1 wB := (by first | with_reducible exact lowA.trans (hbB.mono lowA.size) | exact lowA.drew.trans (hbB.mono lowA.drew.size) | exact (lowA.alloc lowA.size _).trans (hbB.mono (by rw [World.size_alloc]; have := lowA.size; omega)) | exact (lowA.alloc lowA.size _).drew.trans (hbB.mono (by show _ ≤ (World.alloc _ _).heap.size; rw [World.size_alloc]; have := lowA.size; omega)))
           have sB := HSOK.out _ lowB
           (first | have ZZ := pk_on ZZ hbB | have ZZ := pk_on (pk_new lowA) hbB | have ZZ := pk_on (pk_drew (pk_new lowA)) hbB | skip)
           (try have zz0 := ZZ.z.cell (i := 0) (v := .string ⟨#[]⟩) rfl)
           (try have zz1 := ZZ.z.cell (i := 1) (v := .string ⟨#[]⟩) rfl)
           (try have zf0 := ZZ.z.frozen 0)
           (try have zf1 := ZZ.z.frozen 1))
        | (go_at_call 51
           with_reducible refine KNw.step (by first | with_reducible exact hsB.drew | with_reducible exact hsB | with_reducible exact (hsB.alloc _).drew | with_reducible exact hsB.alloc _) ?_
           intro wC hsC hbC
           have lowC : Below W1.heap.size W1 wC := (by first | with_reducible exact lowB.trans (hbC.mono lowB.size) | exact lowB.drew.trans (hbC.mono lowB.drew.size) | exact (lowB.alloc lowB.size _).trans (hbC.mono (by rw [World.size_alloc]; have := lowB.size; omega)) | exact (lowB.alloc lowB.size _).drew.trans (hbC.mono (by show _ ≤ (World.alloc _ _).heap.size; rw [World.size_alloc]; have := lowB.size; omega)))
           have sC := HSOK.out _ lowC
           (first | have ZZ := pk_on ZZ hbC | have ZZ := pk_on (pk_new lowB) hbC | have ZZ := pk_on (pk_drew (pk_new lowB)) hbC | skip)
           (try have zz0 := ZZ.z.cell (i := 0) (v := .string ⟨#[]⟩) rfl)
           (try have zz1 := ZZ.z.cell (i := 1) (v := .string ⟨#[]⟩) rfl)
           (try have zf0 := ZZ.z.frozen 0)
           (try have zf1 := ZZ.z.frozen 1)))
    all_goals
      first
        | (have P := pk_set (bz := wB.heap.size) ZZ qn qd; generalize (wC.setCell ⟨wB.heap.size, 0, none⟩ (.string qn)).setCell ⟨wB.heap.size, 1, none⟩ (.string qd) = W4 at P ⊢; generalize wB.heap.size = bz at P ⊢)
        | (have P := pk_set (bz := wA.heap.size) ZZ qn qd; generalize (wC.setCell ⟨wA.heap.size, 0, none⟩ (.string qn)).setCell ⟨wA.heap.size, 1, none⟩ (.string qd) = W4 at P ⊢; generalize wA.heap.size = bz at P ⊢)
        | (have P := pk_set (bz := W1.heap.size) ZZ qn qd; generalize (wC.setCell ⟨W1.heap.size, 0, none⟩ (.string qn)).setCell ⟨W1.heap.size, 1, none⟩ (.string qd) = W4 at P ⊢; generalize W1.heap.size = bz at P ⊢)
        | (have P := pk_alloc (n := qn) (d := qd) lowC; generalize wC.alloc (.cells #[.string qn, .string qd] 36) = W4 at P ⊢; generalize wC.heap.size = bz at P ⊢)
    all_goals
      go_wp2_with fail
      go_meet
      exact ⟨_, rfl, rfl, P⟩
  case rest =>
  obtain ⟨g, rfl, rfl, PK⟩ := hcut
  generalize wc = v7 at *
  have XG := PK.out.z
  have HP7 := Lib.hid (HP.out.up PK.out.low)
  have hgw : w.heap.size ≤ g := Nat.le_trans HP.out.st.2.size PK.out.ge
  have hne : b4 ≠ g := by have := HP.out.z.lt; have := PK.out.ge; omega
  clear a2 a3 e2 e3
  have XZ := HP7.out.z
  have xg0 := XG.cell (i := 0) (v := .string qn) rfl
  have xg1 := XG.cell (i := 1) (v := .string qd) rfl
  have xB0 := XZ.cell (i := 0) (v := .string ⟨#[]⟩) rfl
  have fB0 := XZ.frozen 0
  have xB1 := XZ.cell (i := 1) (v := .string ⟨#[]⟩) rfl
  have fB1 := XZ.frozen 1
  have C1 := (XZ.set 0 (.string qn)).set 1 (.string qd)
  have y0 := C1.cell (i := 0) (v := .string qn) rfl
  have y1 := C1.cell (i := 1) (v := .string qd) rfl
  have hs4 := (HP7.out.st.set (b := b4) HP.out.lo 0 (.string qn)).set (b := b4) HP.out.lo 1 (.string qd)
  go_wp2_with fail
  exact bodyPost_ret (v := .tuple #[.agg #[.string qn, .string qd], .int .i64 0]) (by simp [results, Tryz.results14, go_sem, y0, y1]) rfl ⟨rfl, hs4.2⟩
end Go.Proofs.YtpipkeplhkccoaaGreatDoor
