/- Walk of UnitpriceHeld. Condition: sizes that strings and slices can have. -/
import Derived.Test.YtpipkeplhkccoaaGreatDoorHe1
import Derived.Test.YtpipkeplhkccoaaGreatDoorEqI
import Derived.Test.YtpipkeplhkccoaaGreatDoorDh
namespace Go.Proofs.YtpipkeplhkccoaaGreatDoor
open Go.RowKit Go.Shelf Dec QQ SP

structure RH (w : World) (x y z : Dn) (b0 b1 b2 : Nat) (W : World) : Prop where
  st : St w W
  x : Bx W b0 x.cells
  y : Bx W b1 y.cells
  z : Bx W b2 z.cells
theorem RH.up {w : World} {x y z : Dn} {b0 b1 b2 : Nat} {W W' : World} (h : RH w x y z b0 b1 b2 W) (hb : Below W.heap.size W W') : RH w x y z b0 b1 b2 W' := ⟨h.st.on hb, h.x.on hb, h.y.on hb, h.z.on hb⟩
theorem RH.alloc {w : World} {x y z : Dn} {b0 b1 b2 : Nat} {W : World} (h : RH w x y z b0 b1 b2 W) (o : Obj) : RH w x y z b0 b1 b2 (W.alloc o) := h.up ((Below.refl _ _).alloc (Nat.le_refl _) _)
theorem RH.kept {w : World} {x y z : Dn} {b0 b1 b2 : Nat} {W : World} (h : RH w x y z b0 b1 b2 W) (u : Kept W) : RH w x y z b0 b1 b2 u.W := h.up u.low
set_option maxRecDepth 100000 in
set_option maxHeartbeats 8000000 in
theorem held44_any {x y z : Dn} {A : Option Addr} {n c : Nat} {ws : List ByteArray} (hx : ∀ s ∈ x.l, s.size ≤ 9223372036854775807) (hy : ∀ s ∈ y.l, s.size ≤ 9223372036854775807) (hz : ∀ s ∈ z.l, s.size ≤ 9223372036854775807) (hn : ws.length = n) (hm : n ≤ 9223372036854775807) (hbig : ∀ s ∈ ws, s.size ≤ 9223372036854775807) :
    ∀ w, Gl w → Row w A (ws.map sv) → Calls Tryz.prog 3 #[.agg #[.string x.a, .string x.b, .string x.c, .string x.d], .agg #[.string y.a, .string y.b, .string y.c, .string y.d], .agg #[.string z.a, .string z.b, .string z.c, .string z.d], .slice A n c] w fun e w' => e = .returned (.bool true) ∧ Below w.heap.size w w' := by
  intro w hg hr
  have HR := Lib.hid hr
  have KA := awake44
  have P0 : Hid (RH w x y z w.heap.size (w.heap.size + 1) (w.heap.size + 1 + 1) (((w.alloc (.cells x.cells 24)).alloc (.cells y.cells 24)).alloc (.cells z.cells 24))) := by
    have h1 := (((St.refl hg).alloc (.cells x.cells 24)).alloc (.cells y.cells 24)).alloc (.cells z.cells 24)
    have h2 := Bx.new (w.alloc (.cells x.cells 24)) y.cells 24
    have h3 := Bx.new ((w.alloc (.cells x.cells 24)).alloc (.cells y.cells 24)) z.cells 24
    rw [World.size_alloc] at h2
    rw [World.size_alloc, World.size_alloc] at h3
    exact ⟨h1, ((Bx.new w _ _).alloc _).alloc _, h2.alloc _, h3⟩
  have HSZ : Hid ((((w.alloc (.cells x.cells 24)).alloc (.cells y.cells 24)).alloc (.cells z.cells 24)).heap.size = w.heap.size + 1 + 1 + 1) := by show _ = _; rw [World.size_alloc, World.size_alloc, World.size_alloc]
  have KL := Lib.hid (fun (B : Nat) => long44_any (A := some ⟨B, 0, none⟩) (n := 3) (c := 3) (l := [x, y, z]) rfl (by decide) (by intro s hs; simp at hs; rcases hs with rfl | rfl | rfl <;> assumption))
  have KG := great44_anyB (A := A) (n := n) (c := c) (l := ws) hn hm hbig
  clear hr hx hy hz
  cases hL : [x, y, z].any (fun s => big20 s.l) with
  | true =>
    rw [hL] at KL
    clear hL KG hn hbig
    go_enter Tryz.func3, Tryz.ntmps3
    have x0 := P0.out.x.cell (i := 0) (v := .string x.a) rfl
    have x1 := P0.out.x.cell (i := 1) (v := .string x.b) rfl
    have x2 := P0.out.x.cell (i := 2) (v := .string x.c) rfl
    have x3 := P0.out.x.cell (i := 3) (v := .string x.d) rfl
    have y0 := P0.out.y.cell (i := 0) (v := .string y.a) rfl
    have y1 := P0.out.y.cell (i := 1) (v := .string y.b) rfl
    have y2 := P0.out.y.cell (i := 2) (v := .string y.c) rfl
    have y3 := P0.out.y.cell (i := 3) (v := .string y.d) rfl
    have z0 := P0.out.z.cell (i := 0) (v := .string z.a) rfl
    have z1 := P0.out.z.cell (i := 1) (v := .string z.b) rfl
    have z2 := P0.out.z.cell (i := 2) (v := .string z.c) rfl
    have z3 := P0.out.z.cell (i := 3) (v := .string z.d) rfl
    go_wp2_with fail
    obtain ⟨b2, h2⟩ : ∃ b, w.heap.size + 1 + 1 = b := ⟨_, rfl⟩
    rw [h2] at P0 HSZ z0 z1 z2 z3 ⊢
    obtain ⟨b1, h1⟩ : ∃ b, w.heap.size + 1 = b := ⟨_, rfl⟩
    rw [h1] at P0 y0 y1 y2 y3 ⊢
    obtain ⟨b0, h0⟩ : ∃ b, w.heap.size = b := ⟨_, rfl⟩
    have RH0 := P0
    rw [h0] at RH0 x0 x1 x2 x3 ⊢
    clear P0
    unfold Dn.cells at RH0 HSZ
    generalize (((w.alloc (.cells #[.string x.a, .string x.b, .string x.c, .string x.d] 24)).alloc (.cells #[.string y.a, .string y.b, .string y.c, .string y.d] 24)).alloc (.cells #[.string z.a, .string z.b, .string z.c, .string z.d] 24)) = W0 at *
    clear h0 h1 h2
    try go_wp2_with fail
    rw [← HSZ.out]
    have hs := RH0.out.st.alloc (.cells #[.string x.a, .string x.b, .string x.c, .string x.d, .string y.a, .string y.b, .string y.c, .string y.d, .string z.a, .string z.b, .string z.c, .string z.d] 24)
    have HRL : Hid (Row (W0.alloc (.cells #[.string x.a, .string x.b, .string x.c, .string x.d, .string y.a, .string y.b, .string y.c, .string y.d, .string z.a, .string z.b, .string z.c, .string z.d] 24)) (some ⟨W0.heap.size, 0, none⟩) (flatG dncells [x, y, z])) := Row.of (Bx.new W0 #[.string x.a, .string x.b, .string x.c, .string x.d, .string y.a, .string y.b, .string y.c, .string y.d, .string z.a, .string z.b, .string z.c, .string z.d] 24)
    replace RH0 := Lib.hid (RH0.out.alloc (.cells #[.string x.a, .string x.b, .string x.c, .string x.d, .string y.a, .string y.b, .string y.c, .string y.d, .string z.a, .string z.b, .string z.c, .string z.d] 24))
    clear x0 x1 x2 x3 y0 y1 y2 y3 z0 z1 z2 z3
    refine (KL.out W0.heap.size).step hs HRL.out ?_
    intro w1 hs hb1
    replace RH0 := Lib.hid (RH0.out.up hb1)
    clear HRL
    try go_wp2_with fail
    refine KA.step hs ?_
    intro w2 hs hb
    go_wp2_with fail
    go_ret
    exact ⟨rfl, hs.2⟩
  | false =>
  rw [hL] at KL
  have zz : ∀ s ∈ [x, y, z], ∀ u ∈ s.l, u.size ≤ 20 := fun s hs u hu => by
    have h1 := List.any_eq_false.1 hL s hs
    have h3 : big20 s.l = false := by simpa using h1
    unfold big20 at h3
    have h2 := List.any_eq_false.1 h3 u hu
    simp at h2
    omega
  cases hG : ws.any (fun s => decide (20 < s.size)) with
  | true =>
    rw [hG] at KG
    clear hL hG hn hbig zz
    go_enter Tryz.func3, Tryz.ntmps3
    have x0 := P0.out.x.cell (i := 0) (v := .string x.a) rfl
    have x1 := P0.out.x.cell (i := 1) (v := .string x.b) rfl
    have x2 := P0.out.x.cell (i := 2) (v := .string x.c) rfl
    have x3 := P0.out.x.cell (i := 3) (v := .string x.d) rfl
    have y0 := P0.out.y.cell (i := 0) (v := .string y.a) rfl
    have y1 := P0.out.y.cell (i := 1) (v := .string y.b) rfl
    have y2 := P0.out.y.cell (i := 2) (v := .string y.c) rfl
    have y3 := P0.out.y.cell (i := 3) (v := .string y.d) rfl
    have z0 := P0.out.z.cell (i := 0) (v := .string z.a) rfl
    have z1 := P0.out.z.cell (i := 1) (v := .string z.b) rfl
    have z2 := P0.out.z.cell (i := 2) (v := .string z.c) rfl
    have z3 := P0.out.z.cell (i := 3) (v := .string z.d) rfl
    go_wp2_with fail
    obtain ⟨b2, h2⟩ : ∃ b, w.heap.size + 1 + 1 = b := ⟨_, rfl⟩
    rw [h2] at P0 HSZ z0 z1 z2 z3 ⊢
    obtain ⟨b1, h1⟩ : ∃ b, w.heap.size + 1 = b := ⟨_, rfl⟩
    rw [h1] at P0 y0 y1 y2 y3 ⊢
    obtain ⟨b0, h0⟩ : ∃ b, w.heap.size = b := ⟨_, rfl⟩
    have RH0 := P0
    rw [h0] at RH0 x0 x1 x2 x3 ⊢
    clear P0
    unfold Dn.cells at RH0 HSZ
    generalize (((w.alloc (.cells #[.string x.a, .string x.b, .string x.c, .string x.d] 24)).alloc (.cells #[.string y.a, .string y.b, .string y.c, .string y.d] 24)).alloc (.cells #[.string z.a, .string z.b, .string z.c, .string z.d] 24)) = W0 at *
    clear h0 h1 h2
    try go_wp2_with fail
    rw [← HSZ.out]
    have hs := RH0.out.st.alloc (.cells #[.string x.a, .string x.b, .string x.c, .string x.d, .string y.a, .string y.b, .string y.c, .string y.d, .string z.a, .string z.b, .string z.c, .string z.d] 24)
    have HRL : Hid (Row (W0.alloc (.cells #[.string x.a, .string x.b, .string x.c, .string x.d, .string y.a, .string y.b, .string y.c, .string y.d, .string z.a, .string z.b, .string z.c, .string z.d] 24)) (some ⟨W0.heap.size, 0, none⟩) (flatG dncells [x, y, z])) := Row.of (Bx.new W0 #[.string x.a, .string x.b, .string x.c, .string x.d, .string y.a, .string y.b, .string y.c, .string y.d, .string z.a, .string z.b, .string z.c, .string z.d] 24)
    replace RH0 := Lib.hid (RH0.out.alloc (.cells #[.string x.a, .string x.b, .string x.c, .string x.d, .string y.a, .string y.b, .string y.c, .string y.d, .string z.a, .string z.b, .string z.c, .string z.d] 24))
    clear x0 x1 x2 x3 y0 y1 y2 y3 z0 z1 z2 z3
    refine (KL.out W0.heap.size).step hs HRL.out ?_
    intro w1 hs hb1
    replace RH0 := Lib.hid (RH0.out.up hb1)
    clear HRL
    try go_wp2_with fail
    refine KG.step hs (HR.out.on hs.2) ?_
    intro w2 hs hb2
    go_wp2_with fail
    refine KA.step hs ?_
    intro w3 hs hb
    go_wp2_with fail
    go_ret
    exact ⟨rfl, hs.2⟩
  | false =>
  rw [hG] at KG
  have zw : ∀ s ∈ ws, s.size ≤ 20 := fun s hs => by
    have h1 := List.any_eq_false.1 hG s hs
    simp at h1
    omega
  by_cases h8 : 8 < n
  · have q8 : decide ((8 : Int) < (n : Int)) = true := decide_eq_true (by omega)
    have q8n : decide (8 < n) = true := decide_eq_true h8
    clear hL hG hn hbig zz zw h8
    go_enter Tryz.func3, Tryz.ntmps3
    have x0 := P0.out.x.cell (i := 0) (v := .string x.a) rfl
    have x1 := P0.out.x.cell (i := 1) (v := .string x.b) rfl
    have x2 := P0.out.x.cell (i := 2) (v := .string x.c) rfl
    have x3 := P0.out.x.cell (i := 3) (v := .string x.d) rfl
    have y0 := P0.out.y.cell (i := 0) (v := .string y.a) rfl
    have y1 := P0.out.y.cell (i := 1) (v := .string y.b) rfl
    have y2 := P0.out.y.cell (i := 2) (v := .string y.c) rfl
    have y3 := P0.out.y.cell (i := 3) (v := .string y.d) rfl
    have z0 := P0.out.z.cell (i := 0) (v := .string z.a) rfl
    have z1 := P0.out.z.cell (i := 1) (v := .string z.b) rfl
    have z2 := P0.out.z.cell (i := 2) (v := .string z.c) rfl
    have z3 := P0.out.z.cell (i := 3) (v := .string z.d) rfl
    go_wp2_with fail
    obtain ⟨b2, h2⟩ : ∃ b, w.heap.size + 1 + 1 = b := ⟨_, rfl⟩
    rw [h2] at P0 HSZ z0 z1 z2 z3 ⊢
    obtain ⟨b1, h1⟩ : ∃ b, w.heap.size + 1 = b := ⟨_, rfl⟩
    rw [h1] at P0 y0 y1 y2 y3 ⊢
    obtain ⟨b0, h0⟩ : ∃ b, w.heap.size = b := ⟨_, rfl⟩
    have RH0 := P0
    rw [h0] at RH0 x0 x1 x2 x3 ⊢
    clear P0
    unfold Dn.cells at RH0 HSZ
    generalize (((w.alloc (.cells #[.string x.a, .string x.b, .string x.c, .string x.d] 24)).alloc (.cells #[.string y.a, .string y.b, .string y.c, .string y.d] 24)).alloc (.cells #[.string z.a, .string z.b, .string z.c, .string z.d] 24)) = W0 at *
    clear h0 h1 h2
    try go_wp2_with fail
    rw [← HSZ.out]
    have hs := RH0.out.st.alloc (.cells #[.string x.a, .string x.b, .string x.c, .string x.d, .string y.a, .string y.b, .string y.c, .string y.d, .string z.a, .string z.b, .string z.c, .string z.d] 24)
    have HRL : Hid (Row (W0.alloc (.cells #[.string x.a, .string x.b, .string x.c, .string x.d, .string y.a, .string y.b, .string y.c, .string y.d, .string z.a, .string z.b, .string z.c, .string z.d] 24)) (some ⟨W0.heap.size, 0, none⟩) (flatG dncells [x, y, z])) := Row.of (Bx.new W0 #[.string x.a, .string x.b, .string x.c, .string x.d, .string y.a, .string y.b, .string y.c, .string y.d, .string z.a, .string z.b, .string z.c, .string z.d] 24)
    replace RH0 := Lib.hid (RH0.out.alloc (.cells #[.string x.a, .string x.b, .string x.c, .string x.d, .string y.a, .string y.b, .string y.c, .string y.d, .string z.a, .string z.b, .string z.c, .string z.d] 24))
    clear x0 x1 x2 x3 y0 y1 y2 y3 z0 z1 z2 z3
    refine (KL.out W0.heap.size).step hs HRL.out ?_
    intro w1 hs hb1
    replace RH0 := Lib.hid (RH0.out.up hb1)
    clear HRL
    try go_wp2_with fail
    refine KG.step hs (HR.out.on hs.2) ?_
    intro w2 hs hb2
    go_wp2_with fail
    refine KA.step hs ?_
    intro w3 hs hb
    go_wp2_with fail
    go_ret
    exact ⟨rfl, hs.2⟩
  have q8 : decide ((8 : Int) < (n : Int)) = false := decide_eq_false (by omega)
  have q8n : decide (8 < n) = false := decide_eq_false h8
  have zx := zz x (by simp)
  have zy := zz y (by simp)
  have zzz := zz z (by simp)
  clear hL hG hbig zz
  have KH := Lib.hid (fun (u : World) (hg : Gl u) (hr : Row u A (ws.map sv)) => holders_any (A := A) (cc := c) (n := n) (k0 := 20) (a := x.a) (b := x.b) (c := x.c) (d := x.d) (ws := ws) hn (by omega) (by decide) (zx _ (by simp [Dn.l])) (zx _ (by simp [Dn.l])) (zx _ (by simp [Dn.l])) (zx _ (by simp [Dn.l])) zw u hg hr)
  have KR1 : Ret 14 #[.agg #[.string x.a, .string x.b, .string x.c, .string x.d], .agg #[.string y.a, .string y.b, .string y.c, .string y.d]] _ := return_any (x := x) (y := y) (k0 := 20) (by decide) zx zy
  have KR2 : Ret 14 #[.agg #[.string y.a, .string y.b, .string y.c, .string y.d], .agg #[.string z.a, .string z.b, .string z.c, .string z.d]] _ := return_any (x := y) (y := z) (k0 := 20) (by decide) zy zzz
  have KR3 : Ret 14 #[.agg #[.string x.a, .string x.b, .string x.c, .string x.d], .agg #[.string z.a, .string z.b, .string z.c, .string z.d]] _ := return_any (x := x) (y := z) (k0 := 20) (by decide) zx zzz
  have szq : ∀ {p q : Dn}, (∀ s ∈ p.l, s.size ≤ 20) → (∀ s ∈ q.l, s.size ≤ 20) → FitQ 40 (reQ p q) := fun {p q} hp hq => by
    unfold reQ
    split
    · exact FitQ.mono (FitQ.rat (k := 40) (m := 40) ((Fit.val (hq q.d (by simp [Dn.l]))).mul (Fit.val (hp p.c (by simp [Dn.l])))) ((Fit.val (hq q.c (by simp [Dn.l]))).mul (Fit.val (hp p.d (by simp [Dn.l])))) (by decide)) (by decide)
    · exact ⟨by decide +kernel, by decide +kernel⟩
  have KMu := MulF (Vq.fr (szq zx zy) (by decide)) (Vq.fr (szq zy zzz) (by decide))
  have HM : Hid (reE x y = 0 → reE y z = 0 → reE x z = 0 ∧ frN (reQ x y * reQ y z) = frN (reQ x z) ∧ frD (reQ x y * reQ y z) = frD (reQ x z)) := fun a b => ⟨(re_mul a b).1, by rw [(re_mul a b).2], by rw [(re_mul a b).2]⟩
  have HO : Hid (hoE x.a x.b x.c x.d ws = 0 → HoOk x ws (hoL x.a x.b x.c x.d ws)) := ho_ok
  unfold FR at KR1 KR2 KR3 KMu
  unfold FV at KMu
  have hfl := hoL_fit (x := x) (zx _ (by simp [Dn.l])) zw
  have HFL := Lib.hid hfl
  generalize frN (reQ x y * reQ y z) = pa at *
  generalize frD (reQ x y * reQ y z) = pb at *
  generalize frN (reQ x y) = p1 at *
  generalize frD (reQ x y) = p2 at *
  generalize frN (reQ y z) = p3 at *
  generalize frD (reQ y z) = p4 at *
  generalize frN (reQ x z) = p5 at *
  generalize frD (reQ x z) = p6 at *
  generalize reE x y = e1 at *
  generalize reE y z = e2 at *
  generalize reE x z = e3 at *
  generalize hoE x.a x.b x.c x.d ws = he at *
  generalize hoL x.a x.b x.c x.d ws = L at *
  clear szq zx zy zzz hfl
  go_enter Tryz.func3, Tryz.ntmps3
  have x0 := P0.out.x.cell (i := 0) (v := .string x.a) rfl
  have x1 := P0.out.x.cell (i := 1) (v := .string x.b) rfl
  have x2 := P0.out.x.cell (i := 2) (v := .string x.c) rfl
  have x3 := P0.out.x.cell (i := 3) (v := .string x.d) rfl
  have y0 := P0.out.y.cell (i := 0) (v := .string y.a) rfl
  have y1 := P0.out.y.cell (i := 1) (v := .string y.b) rfl
  have y2 := P0.out.y.cell (i := 2) (v := .string y.c) rfl
  have y3 := P0.out.y.cell (i := 3) (v := .string y.d) rfl
  have z0 := P0.out.z.cell (i := 0) (v := .string z.a) rfl
  have z1 := P0.out.z.cell (i := 1) (v := .string z.b) rfl
  have z2 := P0.out.z.cell (i := 2) (v := .string z.c) rfl
  have z3 := P0.out.z.cell (i := 3) (v := .string z.d) rfl
  go_wp2_with fail
  obtain ⟨b2, h2⟩ : ∃ b, w.heap.size + 1 + 1 = b := ⟨_, rfl⟩
  rw [h2] at P0 HSZ z0 z1 z2 z3 ⊢
  obtain ⟨b1, h1⟩ : ∃ b, w.heap.size + 1 = b := ⟨_, rfl⟩
  rw [h1] at P0 y0 y1 y2 y3 ⊢
  obtain ⟨b0, h0⟩ : ∃ b, w.heap.size = b := ⟨_, rfl⟩
  have RH0 := P0
  rw [h0] at RH0 x0 x1 x2 x3 ⊢
  clear P0
  unfold Dn.cells at RH0 HSZ
  generalize (((w.alloc (.cells #[.string x.a, .string x.b, .string x.c, .string x.d] 24)).alloc (.cells #[.string y.a, .string y.b, .string y.c, .string y.d] 24)).alloc (.cells #[.string z.a, .string z.b, .string z.c, .string z.d] 24)) = W0 at *
  clear h0 h1 h2
  try go_wp2_with fail
  rw [← HSZ.out]
  have hs := RH0.out.st.alloc (.cells #[.string x.a, .string x.b, .string x.c, .string x.d, .string y.a, .string y.b, .string y.c, .string y.d, .string z.a, .string z.b, .string z.c, .string z.d] 24)
  have HRL : Hid (Row (W0.alloc (.cells #[.string x.a, .string x.b, .string x.c, .string x.d, .string y.a, .string y.b, .string y.c, .string y.d, .string z.a, .string z.b, .string z.c, .string z.d] 24)) (some ⟨W0.heap.size, 0, none⟩) (flatG dncells [x, y, z])) := Row.of (Bx.new W0 #[.string x.a, .string x.b, .string x.c, .string x.d, .string y.a, .string y.b, .string y.c, .string y.d, .string z.a, .string z.b, .string z.c, .string z.d] 24)
  replace RH0 := Lib.hid (RH0.out.alloc (.cells #[.string x.a, .string x.b, .string x.c, .string x.d, .string y.a, .string y.b, .string y.c, .string y.d, .string z.a, .string z.b, .string z.c, .string z.d] 24))
  clear x0 x1 x2 x3 y0 y1 y2 y3 z0 z1 z2 z3
  refine (KL.out W0.heap.size).step hs HRL.out ?_
  intro w1 hs hb1
  replace RH0 := Lib.hid (RH0.out.up hb1)
  clear HRL
  try go_wp2_with fail
  refine KG.step hs (HR.out.on hs.2) ?_
  intro w2 hs hb2
  replace RH0 := Lib.hid (RH0.out.up hb2)
  have x0 := RH0.out.x.cell (i := 0) (v := .string x.a) rfl
  have x1 := RH0.out.x.cell (i := 1) (v := .string x.b) rfl
  have x2 := RH0.out.x.cell (i := 2) (v := .string x.c) rfl
  have x3 := RH0.out.x.cell (i := 3) (v := .string x.d) rfl
  go_wp2_with fail
  refine (KH.out w2 hs.gl (HR.out.on hs.2)).mono ?_
  rintro e w3 ⟨v, rfl, hov, hb3⟩
  obtain ⟨A1, cc1, rfl, hrow⟩ := hov.row
  replace hs := hs.on hb3
  replace RH0 := Lib.hid (RH0.out.up hb3)
  have RS := Lib.hid hrow
  clear hov hrow hb3 x0 x1 x2 x3 KL KG KH
  by_cases h0 : he = 0
  · have ho := HO.out h0
    have qe : (he == 0) = true := by rw [h0]; rfl
    have hlen : L.length = n := ho.len.trans hn
    rw [hlen]
    have HFS : Hid (∀ i, Fit 43 (L.take i).sum) := fun i => sum_fit9 (fun z hz => HFL.out z (List.mem_of_mem_take hz)) (by rw [List.length_take]; omega)
    have KO := OfR (n := 0) (by decide) (by decide)
    have HOO := Lib.hid ho
    have HN := Lib.hid hn
    have HZW := Lib.hid zw
    have HLN := Lib.hid hlen
    rw [flat_sv] at RS
    have qlen : ((n : Int) != (n : Int)) = false := by simp
    have HS0 : Hid (canS (L.take 0).sum = canS 0) := rfl
    generalize canS 0 = z00 at *
    clear ho h0 HO hn zw hlen
    go_wp2_with fail
    refine KO.step hs ?_
    intro w4 hs hb4
    replace RH0 := Lib.hid (RH0.out.up hb4)
    replace RS := Lib.hid (RS.out.on hb4)
    clear KO
    go_wp2_with fail
    go_loopw [53, 11] (fun s t wr => ∃ i : Nat, i ≤ n ∧ s = .int .i64 (i : Int) ∧ t = .string (canS (L.take i).sum) ∧ Hid (RH w x y z b0 b1 b2 wr) ∧ Hid (Row wr A1 ((L.map canS).map sv))) (fun s _ _ => (n - intOf s).toNat)
    case atStart => exact ⟨0, by omega, rfl, by rw [HS0.out], RH0, RS⟩
    case round =>
      clear RH0 RS hs
      obtain ⟨i, hi, rfl, rfl, RH0, RS⟩ := hrel
      have hs := RH0.out.st
      by_cases hin : i = n
      · subst hin
        have q : decide ((i : Int) < (i : Int)) = false := decide_eq_false (by omega)
        have e9 : canS (L.take i).sum = x.a := by rw [List.take_of_length_le (by rw [HLN.out]; exact Nat.le_refl _)]; exact HOO.out.sum
        rw [e9]
        clear RS HOO HZW HLN HN HS0 e9
        have x0 := RH0.out.x.cell (i := 0) (v := .string x.a) rfl
        have x1 := RH0.out.x.cell (i := 1) (v := .string x.b) rfl
        have x2 := RH0.out.x.cell (i := 2) (v := .string x.c) rfl
        have x3 := RH0.out.x.cell (i := 3) (v := .string x.d) rfl
        have y0 := RH0.out.y.cell (i := 0) (v := .string y.a) rfl
        have y1 := RH0.out.y.cell (i := 1) (v := .string y.b) rfl
        have y2 := RH0.out.y.cell (i := 2) (v := .string y.c) rfl
        have y3 := RH0.out.y.cell (i := 3) (v := .string y.d) rfl
        have z0 := RH0.out.z.cell (i := 0) (v := .string z.a) rfl
        have z1 := RH0.out.z.cell (i := 1) (v := .string z.b) rfl
        have z2 := RH0.out.z.cell (i := 2) (v := .string z.c) rfl
        have z3 := RH0.out.z.cell (i := 3) (v := .string z.d) rfl
        go_wp2_with fail
        refine KR1.step hs ?_
        intro w31 hs hb31
        replace RH0 := Lib.hid ((RH0.out.up hb31).alloc (.cells #[.string p1, .string p2] 36))
        have B1 := Bx.new w31 #[.string p1, .string p2] 36
        replace hs := hs.alloc (.cells #[.string p1, .string p2] 36)
        clear x0 x1 x2 x3 y0 y1 y2 y3 z0 z1 z2 z3
        have x0 := RH0.out.x.cell (i := 0) (v := .string x.a) rfl
        have x1 := RH0.out.x.cell (i := 1) (v := .string x.b) rfl
        have x2 := RH0.out.x.cell (i := 2) (v := .string x.c) rfl
        have x3 := RH0.out.x.cell (i := 3) (v := .string x.d) rfl
        have y0 := RH0.out.y.cell (i := 0) (v := .string y.a) rfl
        have y1 := RH0.out.y.cell (i := 1) (v := .string y.b) rfl
        have y2 := RH0.out.y.cell (i := 2) (v := .string y.c) rfl
        have y3 := RH0.out.y.cell (i := 3) (v := .string y.d) rfl
        have z0 := RH0.out.z.cell (i := 0) (v := .string z.a) rfl
        have z1 := RH0.out.z.cell (i := 1) (v := .string z.b) rfl
        have z2 := RH0.out.z.cell (i := 2) (v := .string z.c) rfl
        have z3 := RH0.out.z.cell (i := 3) (v := .string z.d) rfl
        go_wp2_with fail
        obtain ⟨c1, hc1⟩ : ∃ b, w31.heap.size = b := ⟨_, rfl⟩
        rw [hc1] at B1 ⊢
        generalize w31.alloc (.cells #[.string p1, .string p2] 36) = w32 at *
        clear hc1
        try go_wp2_with fail
        refine KR2.step hs ?_
        intro w33 hs hb33
        replace RH0 := Lib.hid ((RH0.out.up hb33).alloc (.cells #[.string p3, .string p4] 36))
        replace B1 := (B1.on hb33).alloc (.cells #[.string p3, .string p4] 36)
        have B2 := Bx.new w33 #[.string p3, .string p4] 36
        replace hs := hs.alloc (.cells #[.string p3, .string p4] 36)
        clear x0 x1 x2 x3 y0 y1 y2 y3 z0 z1 z2 z3
        have x0 := RH0.out.x.cell (i := 0) (v := .string x.a) rfl
        have x1 := RH0.out.x.cell (i := 1) (v := .string x.b) rfl
        have x2 := RH0.out.x.cell (i := 2) (v := .string x.c) rfl
        have x3 := RH0.out.x.cell (i := 3) (v := .string x.d) rfl
        have y0 := RH0.out.y.cell (i := 0) (v := .string y.a) rfl
        have y1 := RH0.out.y.cell (i := 1) (v := .string y.b) rfl
        have y2 := RH0.out.y.cell (i := 2) (v := .string y.c) rfl
        have y3 := RH0.out.y.cell (i := 3) (v := .string y.d) rfl
        have z0 := RH0.out.z.cell (i := 0) (v := .string z.a) rfl
        have z1 := RH0.out.z.cell (i := 1) (v := .string z.b) rfl
        have z2 := RH0.out.z.cell (i := 2) (v := .string z.c) rfl
        have z3 := RH0.out.z.cell (i := 3) (v := .string z.d) rfl
        go_wp2_with fail
        obtain ⟨c2, hc2⟩ : ∃ b, w33.heap.size = b := ⟨_, rfl⟩
        rw [hc2] at B2 ⊢
        generalize w33.alloc (.cells #[.string p3, .string p4] 36) = w34 at *
        clear hc2
        try go_wp2_with fail
        refine KR3.step hs ?_
        intro w35 hs hb35
        replace B1 := (B1.on hb35).alloc (.cells #[.string p5, .string p6] 36)
        replace B2 := (B2.on hb35).alloc (.cells #[.string p5, .string p6] 36)
        have B3 := Bx.new w35 #[.string p5, .string p6] 36
        replace hs := hs.alloc (.cells #[.string p5, .string p6] 36)
        clear x0 x1 x2 x3 y0 y1 y2 y3 z0 z1 z2 z3
        by_cases g1 : e1 = 0
        rotate_left 1
        · have qa : (e1 != 0) = true := by simpa using g1
          clear HM g1
          go_wp2_with fail
          refine KA.step hs ?_
          intro w36 hs hb
          go_wp2_with fail
          go_ret
          exact ⟨rfl, hs.2⟩
        have qa : (e1 != 0) = false := by rw [g1]; rfl
        by_cases g2 : e2 = 0
        rotate_left 1
        · have qb : (e2 != 0) = true := by simpa using g2
          clear HM g1 g2
          go_wp2_with fail
          refine KA.step hs ?_
          intro w36 hs hb
          go_wp2_with fail
          go_ret
          exact ⟨rfl, hs.2⟩
        have qb : (e2 != 0) = false := by rw [g2]; rfl
        obtain ⟨g3, g4⟩ := HM.out g1 g2
        have qc : (e3 == 0) = true := by rw [g3]; rfl
        rw [g4.1, g4.2] at KMu
        clear HM g1 g2 g3 g4
        have eqD := fun u => eqlF p5 p6 p5 p6 u
        simp only [beq_self_eq_true, Bool.and_true] at eqD
        go_wp2_with fail
        obtain ⟨c3, hc3⟩ : ∃ b, w35.heap.size = b := ⟨_, rfl⟩
        rw [hc3] at B3 ⊢
        generalize w35.alloc (.cells #[.string p5, .string p6] 36) = w36 at *
        clear hc3
        have m10 := B1.keeps (i := 0) (v := .string p1) rfl
        have m11 := B1.keeps (i := 1) (v := .string p2) rfl
        have m20 := B2.keeps (i := 0) (v := .string p3) rfl
        have m21 := B2.keeps (i := 1) (v := .string p4) rfl
        have m30 := B3.keeps (i := 0) (v := .string p5) rfl
        have m31 := B3.keeps (i := 1) (v := .string p6) rfl
        try go_wp2_with fail
        refine wp_region_kept (by kernel_rfl) (by kernel_rfl) ?_
        repeat (go_big_quiet_step (first | (with_reducible exact KMu.kept hs) | (with_reducible exact KA.kept hs)))
        refine wpQuiet_nil ?_
        rintro _ ⟨u, rfl⟩
        replace hs := hs.kept u
        go_wp2_with fail
        go_ret
        exact ⟨rfl, hs.2⟩
      · have hil : i < n := by omega
        have q : decide ((i : Int) < (n : Int)) = true := decide_eq_true (by omega)
        have qn : decide (i < n) = true := decide_eq_true hil
        have il2 : (i : Int) < (n : Int) := by omega
        have fS := HFS.out i
        have fL := HFL.out _ (List.mem_of_getElem? (at0_lt (l := L) (i := i) (by rw [HLN.out]; exact hil)))
        have KAd := AddR (Vs.can fS (by omega)) (Vs.can fL (by omega))
        rw [← take_sum (by rw [HLN.out]; exact hil)] at KAd
        have hvS : ((L.map canS).map sv)[i]? = some (.string (canS (at0 L i))) := by rw [List.getElem?_map, List.getElem?_map, at0_lt (by rw [HLN.out]; exact hil)]; rfl
        obtain ⟨bs, os, hA1⟩ := row_addr RS.out hvS
        subst hA1
        obtain ⟨pi, hpi⟩ : ∃ p, ws[i]? = some p := ⟨ws[i]'(by rw [HN.out]; exact hil), by simp⟩
        have hvP : (ws.map sv)[i]? = some (.string pi) := by rw [List.getElem?_map, hpi]; rfl
        obtain ⟨bp, op, hA⟩ := row_addr HR.out hvP
        subst hA
        have HPI := Lib.hid hpi
        have HVP := Lib.hid hvP
        have ci := row_cell RS.out hvS
        obtain ⟨ai, hai⟩ : ∃ v, canS (at0 L i) = v := ⟨_, rfl⟩
        rw [hai] at ci KAd
        have HAI := Lib.hid hai
        obtain ⟨s0, hs0⟩ : ∃ v, canS (L.take i).sum = v := ⟨_, rfl⟩
        rw [hs0] at KAd ⊢
        obtain ⟨s1, hs1⟩ : ∃ v, canS (L.take (i + 1)).sum = v := ⟨_, rfl⟩
        rw [hs1] at KAd
        have HS1 := Lib.hid hs1
        clear hvS hpi hvP hai hs0 hs1 fS hin
        go_wp2_with fail
        refine KAd.step hs ?_
        intro w5 hs hb5
        replace RH0 := Lib.hid (RH0.out.up hb5)
        replace RS := Lib.hid (RS.out.on hb5)
        clear ci KAd
        go_wp2_with fail
        go_loopw [63] (fun s wr => ∃ j : Nat, j ≤ n ∧ s = .int .i64 (j : Int) ∧ Hid (RH w x y z b0 b1 b2 wr) ∧ Hid (Row wr (some ⟨bs, os, none⟩) ((L.map canS).map sv))) (fun s _ => (n - intOf s).toNat)
        case atStart => exact ⟨0, by omega, rfl, RH0, RS⟩
        case round =>
          clear RH0 RS hs
          obtain ⟨j, hj, rfl, RH0, RS⟩ := hrel
          have hs := RH0.out.st
          by_cases hjn : j = n
          · subst hjn
            have q : decide ((j : Int) < (j : Int)) = false := decide_eq_false (by omega)
            go_wp2_with fail
            go_roundw
            case rel => exact ⟨i + 1, by omega, by go_num, by rw [HS1.out], RH0, RS⟩
            case measure => simp [intOf]; omega
          · have hjl : j < n := by omega
            have qj : decide ((j : Int) < (n : Int)) = true := decide_eq_true (by omega)
            have qjn : decide (j < n) = true := decide_eq_true hjl
            have jl2 : (j : Int) < (n : Int) := by omega
            have hvJ : ((L.map canS).map sv)[j]? = some (.string (canS (at0 L j))) := by rw [List.getElem?_map, List.getElem?_map, at0_lt (by rw [HLN.out]; exact hjl)]; rfl
            obtain ⟨pj, hpj⟩ : ∃ p, ws[j]? = some p := ⟨ws[j]'(by rw [HN.out]; exact hjl), by simp⟩
            have hvQ : (ws.map sv)[j]? = some (.string pj) := by rw [List.getElem?_map, hpj]; rfl
            have fJ := HFL.out _ (List.mem_of_getElem? (at0_lt (l := L) (i := j) (by rw [HLN.out]; exact hjl)))
            have KC1 := CmpR (Vs.arg (s := pi) (by have := HZW.out pi (List.mem_of_getElem? HPI.out); omega)) (Vs.arg (s := pj) (by have := HZW.out pj (List.mem_of_getElem? hpj); omega))
            have KC2 := CmpR (Vs.can fL (by omega)) (Vs.can fJ (by omega))
            have hord := HOO.out.ord i j (by rw [HN.out]; exact hil) (by rw [HN.out]; exact hjl)
            rw [show at0 (iv ws) i = valS pi from iv_at HPI.out, show at0 (iv ws) j = valS pj from iv_at hpj] at hord
            rw [HAI.out] at KC2
            have cj := row_cell RS.out hvJ
            have k1 := Kept.cell_of (row_cell (HR.out.on hs.2) HVP.out)
            have k2 := Kept.cell_of (row_cell (HR.out.on hs.2) hvQ)
            obtain ⟨aj, haj⟩ : ∃ v, canS (at0 L j) = v := ⟨_, rfl⟩
            rw [haj] at cj KC2
            generalize cmpI (valS pi) (valS pj) = v1 at *
            generalize cmpI (at0 L i) (at0 L j) = v2 at *
            clear hvJ hpj hvQ fJ haj hjn
            by_cases hv1 : 0 < v1
            · have r1 : decide (0 < v1) = true := decide_eq_true hv1
              have r2 : decide (v2 < 0) = false := decide_eq_false (fun h => hord ⟨hv1, h⟩)
              clear hord hv1
              go_wp2_with fail
              refine wp_region_kept (by kernel_rfl) (by kernel_rfl) ?_
              repeat (go_big_quiet_step (first | (with_reducible exact KC1.kept hs) | (with_reducible exact KC2.kept hs)))
              refine wpQuiet_nil ?_
              rintro _ ⟨u, rfl⟩
              replace RH0 := Lib.hid (RH0.out.kept u)
              replace RS := Lib.hid (RS.out.on u.low)
              clear cj k1 k2 KC1 KC2
              generalize u.W = w8 at *
              go_wp2_with fail
              go_roundw
              case rel => exact ⟨j + 1, by omega, by go_num, RH0, RS⟩
              case measure => simp [intOf]; omega
            · have r1 : decide (0 < v1) = false := decide_eq_false hv1
              clear hord hv1 KC2
              go_wp2_with fail
              refine wp_region_kept (by kernel_rfl) (by kernel_rfl) ?_
              repeat (go_big_quiet_step (first | (with_reducible exact KC1.kept hs)))
              refine wpQuiet_nil ?_
              rintro _ ⟨u, rfl⟩
              replace RH0 := Lib.hid (RH0.out.kept u)
              replace RS := Lib.hid (RS.out.on u.low)
              clear cj k1 k2 KC1 
              generalize u.W = w8 at *
              go_wp2_with fail
              go_roundw
              case rel => exact ⟨j + 1, by omega, by go_num, RH0, RS⟩
              case measure => simp [intOf]; omega
  · have qe : (he == 0) = false := beq_eq_false_iff_ne.2 h0
    clear HO RS h0 hn zw HFL
    have x0 := RH0.out.x.cell (i := 0) (v := .string x.a) rfl
    have x1 := RH0.out.x.cell (i := 1) (v := .string x.b) rfl
    have x2 := RH0.out.x.cell (i := 2) (v := .string x.c) rfl
    have x3 := RH0.out.x.cell (i := 3) (v := .string x.d) rfl
    have y0 := RH0.out.y.cell (i := 0) (v := .string y.a) rfl
    have y1 := RH0.out.y.cell (i := 1) (v := .string y.b) rfl
    have y2 := RH0.out.y.cell (i := 2) (v := .string y.c) rfl
    have y3 := RH0.out.y.cell (i := 3) (v := .string y.d) rfl
    have z0 := RH0.out.z.cell (i := 0) (v := .string z.a) rfl
    have z1 := RH0.out.z.cell (i := 1) (v := .string z.b) rfl
    have z2 := RH0.out.z.cell (i := 2) (v := .string z.c) rfl
    have z3 := RH0.out.z.cell (i := 3) (v := .string z.d) rfl
    go_wp2_with fail
    refine KR1.step hs ?_
    intro w31 hs hb31
    replace RH0 := Lib.hid ((RH0.out.up hb31).alloc (.cells #[.string p1, .string p2] 36))
    have B1 := Bx.new w31 #[.string p1, .string p2] 36
    replace hs := hs.alloc (.cells #[.string p1, .string p2] 36)
    clear x0 x1 x2 x3 y0 y1 y2 y3 z0 z1 z2 z3
    have x0 := RH0.out.x.cell (i := 0) (v := .string x.a) rfl
    have x1 := RH0.out.x.cell (i := 1) (v := .string x.b) rfl
    have x2 := RH0.out.x.cell (i := 2) (v := .string x.c) rfl
    have x3 := RH0.out.x.cell (i := 3) (v := .string x.d) rfl
    have y0 := RH0.out.y.cell (i := 0) (v := .string y.a) rfl
    have y1 := RH0.out.y.cell (i := 1) (v := .string y.b) rfl
    have y2 := RH0.out.y.cell (i := 2) (v := .string y.c) rfl
    have y3 := RH0.out.y.cell (i := 3) (v := .string y.d) rfl
    have z0 := RH0.out.z.cell (i := 0) (v := .string z.a) rfl
    have z1 := RH0.out.z.cell (i := 1) (v := .string z.b) rfl
    have z2 := RH0.out.z.cell (i := 2) (v := .string z.c) rfl
    have z3 := RH0.out.z.cell (i := 3) (v := .string z.d) rfl
    go_wp2_with fail
    obtain ⟨c1, hc1⟩ : ∃ b, w31.heap.size = b := ⟨_, rfl⟩
    rw [hc1] at B1 ⊢
    generalize w31.alloc (.cells #[.string p1, .string p2] 36) = w32 at *
    clear hc1
    try go_wp2_with fail
    refine KR2.step hs ?_
    intro w33 hs hb33
    replace RH0 := Lib.hid ((RH0.out.up hb33).alloc (.cells #[.string p3, .string p4] 36))
    replace B1 := (B1.on hb33).alloc (.cells #[.string p3, .string p4] 36)
    have B2 := Bx.new w33 #[.string p3, .string p4] 36
    replace hs := hs.alloc (.cells #[.string p3, .string p4] 36)
    clear x0 x1 x2 x3 y0 y1 y2 y3 z0 z1 z2 z3
    have x0 := RH0.out.x.cell (i := 0) (v := .string x.a) rfl
    have x1 := RH0.out.x.cell (i := 1) (v := .string x.b) rfl
    have x2 := RH0.out.x.cell (i := 2) (v := .string x.c) rfl
    have x3 := RH0.out.x.cell (i := 3) (v := .string x.d) rfl
    have y0 := RH0.out.y.cell (i := 0) (v := .string y.a) rfl
    have y1 := RH0.out.y.cell (i := 1) (v := .string y.b) rfl
    have y2 := RH0.out.y.cell (i := 2) (v := .string y.c) rfl
    have y3 := RH0.out.y.cell (i := 3) (v := .string y.d) rfl
    have z0 := RH0.out.z.cell (i := 0) (v := .string z.a) rfl
    have z1 := RH0.out.z.cell (i := 1) (v := .string z.b) rfl
    have z2 := RH0.out.z.cell (i := 2) (v := .string z.c) rfl
    have z3 := RH0.out.z.cell (i := 3) (v := .string z.d) rfl
    go_wp2_with fail
    obtain ⟨c2, hc2⟩ : ∃ b, w33.heap.size = b := ⟨_, rfl⟩
    rw [hc2] at B2 ⊢
    generalize w33.alloc (.cells #[.string p3, .string p4] 36) = w34 at *
    clear hc2
    try go_wp2_with fail
    refine KR3.step hs ?_
    intro w35 hs hb35
    replace B1 := (B1.on hb35).alloc (.cells #[.string p5, .string p6] 36)
    replace B2 := (B2.on hb35).alloc (.cells #[.string p5, .string p6] 36)
    have B3 := Bx.new w35 #[.string p5, .string p6] 36
    replace hs := hs.alloc (.cells #[.string p5, .string p6] 36)
    clear x0 x1 x2 x3 y0 y1 y2 y3 z0 z1 z2 z3
    by_cases g1 : e1 = 0
    rotate_left 1
    · have qa : (e1 != 0) = true := by simpa using g1
      clear HM g1
      go_wp2_with fail
      refine KA.step hs ?_
      intro w36 hs hb
      go_wp2_with fail
      go_ret
      exact ⟨rfl, hs.2⟩
    have qa : (e1 != 0) = false := by rw [g1]; rfl
    by_cases g2 : e2 = 0
    rotate_left 1
    · have qb : (e2 != 0) = true := by simpa using g2
      clear HM g1 g2
      go_wp2_with fail
      refine KA.step hs ?_
      intro w36 hs hb
      go_wp2_with fail
      go_ret
      exact ⟨rfl, hs.2⟩
    have qb : (e2 != 0) = false := by rw [g2]; rfl
    obtain ⟨g3, g4⟩ := HM.out g1 g2
    have qc : (e3 == 0) = true := by rw [g3]; rfl
    rw [g4.1, g4.2] at KMu
    clear HM g1 g2 g3 g4
    have eqD := fun u => eqlF p5 p6 p5 p6 u
    simp only [beq_self_eq_true, Bool.and_true] at eqD
    go_wp2_with fail
    obtain ⟨c3, hc3⟩ : ∃ b, w35.heap.size = b := ⟨_, rfl⟩
    rw [hc3] at B3 ⊢
    generalize w35.alloc (.cells #[.string p5, .string p6] 36) = w36 at *
    clear hc3
    have m10 := B1.keeps (i := 0) (v := .string p1) rfl
    have m11 := B1.keeps (i := 1) (v := .string p2) rfl
    have m20 := B2.keeps (i := 0) (v := .string p3) rfl
    have m21 := B2.keeps (i := 1) (v := .string p4) rfl
    have m30 := B3.keeps (i := 0) (v := .string p5) rfl
    have m31 := B3.keeps (i := 1) (v := .string p6) rfl
    try go_wp2_with fail
    refine wp_region_kept (by kernel_rfl) (by kernel_rfl) ?_
    repeat (go_big_quiet_step (first | (with_reducible exact KMu.kept hs) | (with_reducible exact KA.kept hs)))
    refine wpQuiet_nil ?_
    rintro _ ⟨u, rfl⟩
    replace hs := hs.kept u
    go_wp2_with fail
    go_ret
    exact ⟨rfl, hs.2⟩
end Go.Proofs.YtpipkeplhkccoaaGreatDoor
