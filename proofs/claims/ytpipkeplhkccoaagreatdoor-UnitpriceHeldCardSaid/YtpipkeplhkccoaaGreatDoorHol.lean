/- Unit prices: numbers, Holders. Condition: short rows, strings of bounded length. -/
import Derived.Test.YtpipkeplhkccoaaGreatDoorCcI
import Derived.Test.YtpipkeplhkccoaaGreatDoorDv
import Derived.Test.YtpipkeplhkccoaaGreatDoorUa
namespace Go.Proofs.YtpipkeplhkccoaaGreatDoor
open Go.RowKit Go.Shelf Dec QQ SP

set_option maxRecDepth 100000 in
set_option maxHeartbeats 4000000 in
theorem numbers4 (a b c d : ByteArray) (w : World) :
    Calls Tryz.prog 44 #[.agg #[.string a, .string b, .string c, .string d]] w fun e w' => ∃ B, e = .returned (.slice (some ⟨B, 0, none⟩) 4 4) ∧ Row w' (some ⟨B, 0, none⟩) ([a, b, c, d].map sv) ∧ Below w.heap.size w w' := by
  have X := Bx.new w #[.string a, .string b, .string c, .string d] 24
  have x0 := X.cell (i := 0) (v := .string a) rfl
  have x1 := X.cell (i := 1) (v := .string b) rfl
  have x2 := X.cell (i := 2) (v := .string c) rfl
  have x3 := X.cell (i := 3) (v := .string d) rfl
  go_enter Tryz.func44, Tryz.ntmps44
  go_wp2_with fail
  go_ret
  have Y := Bx.new (w.alloc (.cells #[.string a, .string b, .string c, .string d] 24)) #[.string a, .string b, .string c, .string d] 22
  rw [World.size_alloc] at Y
  exact ⟨_, rfl, Row.of Y, ((Below.refl _ _).alloc (Nat.le_refl _) _).alloc (by simp) _⟩
/-- what Holders returns -/
def hoE (a b c d : ByteArray) (ws : List ByteArray) : Int := if ucheck ([a, b, c, d] ++ ws) ≠ 0 then ucheck ([a, b, c, d] ++ ws) else alE a ws
def hoL (a b c d : ByteArray) (ws : List ByteArray) : List Int := if ucheck ([a, b, c, d] ++ ws) ≠ 0 then [] else alS a ws
set_option maxRecDepth 100000 in
set_option maxHeartbeats 4000000 in
theorem holders_any {a b c d : ByteArray} {ws : List ByteArray} {A : Option Addr} {n cc k0 : Nat} (hn : ws.length = n) (h12 : n ≤ 12) (hk0 : k0 ≤ 4000) (ha : a.size ≤ k0) (hb : b.size ≤ k0) (hc : c.size ≤ k0) (hd : d.size ≤ k0) (hz : ∀ s ∈ ws, s.size ≤ k0) (w : World) (hg : Gl w) (hr : Row w A (ws.map sv)) :
    Calls Tryz.prog 10 #[.agg #[.string a, .string b, .string c, .string d], .slice A n cc] w fun e w' => ∃ v, e = .returned (.tuple #[v, .int .i64 (hoE a b c d ws)]) ∧ OutG icells 22 1 w.heap.size w' v (hoL a b c d ws).length (hoL a b c d ws) ∧ Below w.heap.size w w' := by
  have hs := (St.refl hg).alloc (.cells #[.string a, .string b, .string c, .string d] 24)
  have X := Bx.new w #[.string a, .string b, .string c, .string d] 24
  have HX := Lib.hid X
  have HR := Lib.hid hr
  have hlz : ∀ s ∈ [a, b, c, d] ++ ws, s.size ≤ 1000000 := fun s hs => by
    rcases List.mem_append.1 hs with h | h
    · simp at h
      rcases h with rfl | rfl | rfl | rfl <;> omega
    · have := hz s h
      omega
  have KN := Lib.hid (fun (u : World) => numbers4 a b c d u)
  have KC := Lib.hid (fun (B bb : Nat) (u : World) (hg : Gl u) (hB : Bx u bb #[.slice (some ⟨B, 0, none⟩) 4 4, .slice A n cc]) (h1 : Row u (some ⟨B, 0, none⟩) (flatG bcells [a, b, c, d])) (h2 : Row u A (flatG bcells ws)) => concatI (xs := [a, b, c, d]) (ys := ws) (p := 4) (q := n) rfl hn (by decide) (by omega) u hg hB h1 h2)
  have KU := Lib.hid (fun (A2 : Option Addr) (c2 : Nat) => ucheck_any (A := A2) (c := c2) (n := 4 + n) (l := [a, b, c, d] ++ ws) (by rw [List.length_append, hn]; rfl) (by omega) hlz)
  have KS := Lib.hid (fun (u : World) (hg : Gl u) (hr : Row u A (ws.map sv)) => split4_any (A := A) (c := cc) (n := n) (k0 := k0) (t := a) (ws := ws) hn (.inl h12) (by omega) hk0 ha hz u hg hr)
  have HE : Hid (hoE a b c d ws = if ucheck ([a, b, c, d] ++ ws) ≠ 0 then ucheck ([a, b, c, d] ++ ws) else alE a ws) := rfl
  have HL : Hid (hoL a b c d ws = if ucheck ([a, b, c, d] ++ ws) ≠ 0 then [] else alS a ws) := rfl
  obtain ⟨ee, hee⟩ : ∃ x, hoE a b c d ws = x := ⟨_, rfl⟩
  obtain ⟨ll, hll⟩ : ∃ x, hoL a b c d ws = x := ⟨_, rfl⟩
  rw [hee] at HE
  rw [hll] at HL
  rw [hee, hll]
  generalize ucheck ([a, b, c, d] ++ ws) = uu at *
  clear hee hll hlz hz ha hb hc hd hn X
  have x0 := HX.out.cell (i := 0) (v := .string a) rfl
  have x1 := HX.out.cell (i := 1) (v := .string b) rfl
  have x2 := HX.out.cell (i := 2) (v := .string c) rfl
  have x3 := HX.out.cell (i := 3) (v := .string d) rfl
  go_enter Tryz.func10, Tryz.ntmps10
  go_wp2_with fail
  refine (KN.out _).mono ?_
  rintro e w1 ⟨B, rfl, hr1, hb1⟩
  replace HX := Lib.hid (HX.out.on hb1)
  have HS0 := Lib.hid (hs.on hb1)
  replace hs := (hs.on hb1).alloc (.cells #[.slice (some ⟨B, 0, none⟩) 4 4, .slice A n cc] 25)
  have XX := Bx.new w1 #[.slice (some ⟨B, 0, none⟩) 4 4, .slice A n cc] 25
  have hbA : Below w1.heap.size w1 (w1.alloc (.cells #[.slice (some ⟨B, 0, none⟩) 4 4, .slice A n cc] 25)) := (Below.refl _ _).alloc (Nat.le_refl _) _
  have HR1 := Lib.hid (hr1.on hbA)
  replace HX := Lib.hid (HX.out.on hbA)
  have HXX := Lib.hid XX
  clear x0 x1 x2 x3 hr1 hb1 hbA XX HS0
  go_wp2_with fail
  refine (KC.out B w1.heap.size _ hs.gl HXX.out (by rw [flat_b]; exact HR1.out) (by rw [flat_b]; exact HR.out.on hs.2)).mono ?_
  rintro e w2 ⟨v, rfl, hov, hb2⟩
  obtain ⟨A2, c2, rfl, hrow⟩ := hov.row
  rw [flat_b] at hrow
  replace HX := Lib.hid (HX.out.on hb2)
  replace hs := hs.on hb2
  have HRW := Lib.hid hrow
  clear hov hrow hb2 HXX HR1
  go_wp2_with fail
  refine (KU.out A2 c2).step hs HRW.out ?_
  intro w3 hs hb3
  replace HX := Lib.hid (HX.out.on hb3)
  clear HRW
  by_cases h0 : uu = 0
  · have e1 := HE.out
    have e2 := HL.out
    rw [if_neg (by simp [h0])] at e1 e2
    have q : (uu != 0) = false := by rw [h0]; rfl
    subst e1 e2
    have x0 := HX.out.cell (i := 0) (v := .string a) rfl
    clear h0 HE HL
    go_wp2_with fail
    refine (KS.out w3 hs.gl (HR.out.on hs.2)).mono ?_
    rintro e w4 ⟨v, rfl, hov, hb4⟩
    have HPO := Lib.hid (show OutG icells 22 1 w.heap.size w4 v (alS a ws).length (alS a ws) from ⟨hov.1, own_low hov.2 hs.2.size⟩)
    replace hs := hs.on hb4
    clear hov x0
    go_wp2_with fail
    go_ret2
    exact ⟨_, rfl, HPO.out, hs.2⟩
  · have e1 := HE.out
    have e2 := HL.out
    rw [if_pos h0] at e1 e2
    have q : (uu != 0) = true := by simpa using h0
    subst e1 e2
    clear h0 HE HL
    go_wp2_with fail
    go_ret2
    exact ⟨_, rfl, ⟨rfl, World.ownsRow_nil _ _ _ _⟩, hs.2⟩
end Go.Proofs.YtpipkeplhkccoaaGreatDoor
