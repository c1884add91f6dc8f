/- Parts of years: a convention's part as one contract; the closure of Add. Conditions: days of the calendar. -/
import Derived.Test.YtgagjpjlnlandaaGreatDoorDh
import Derived.Test.YtgagjpjlnlandaaGreatDoorSr
namespace Go.Proofs.YtgagjpjlnlandaaGreatDoor
open Go.RowKit Go.Shelf Dec
open QQ

set_option maxRecDepth 100000 in
/-- the part's contract of a convention, one for all -/
theorem ConvAt.part {w : World} {c : Nat} {v : Value} (h : ConvAt w c v) : ∃ f cap g cap' I, v = .agg #[.func (.func f) #[] cap, .func (.func g) #[] cap'] ∧ (∀ (args : Array Value) (u : World), (callFunc g args).run Tryz.prog u = .ok (.enter g args) u) ∧ Stays I ∧ I w ∧
    ∀ (A B : Int) (n m : Nat), IsDay A n → IsDay B m → A ≤ B → RetI I g (#[.int .i64 A, .int .i64 B] ++ cap') (FR (partQ c n m)) := by
  have b : ∀ {A : Int} {n : Nat}, IsDay A n → A.natAbs < 1000000 := fun h => by have := h.1; have := h.2; omega
  have hd : ∀ {A B : Int} {n m : Nat}, IsDay A n → IsDay B m → B - A = (m : Int) - (n : Int) := fun h h' => by have := h.1; have := h'.1; omega
  rcases h with ⟨rfl, p, q, rfl, h1, h2⟩ | ⟨rfl, p, q, rfl, h1, h2⟩ | ⟨rfl, r, p, q, rfl, h1, h2, h3⟩ | ⟨rfl, r, p, q, rfl, h1, h2, h3⟩ | ⟨rfl, rfl⟩
  · refine ⟨_, _, _, _, fun w => Bx w p #[actF] ∧ Bx w q #[.int .i64 360], rfl, fun _ _ => rfl, stays_and (stays_bx _ _) (stays_bx _ _), ⟨h1, h2⟩, fun A B n m hA hB hl => ?_⟩
    have := over1_act (k := 360) (b hA) (b hB) (by decide) (by decide) p q
    rw [hd hA hB] at this
    exact this
  · refine ⟨_, _, _, _, fun w => Bx w p #[actF] ∧ Bx w q #[.int .i64 365], rfl, fun _ _ => rfl, stays_and (stays_bx _ _) (stays_bx _ _), ⟨h1, h2⟩, fun A B n m hA hB hl => ?_⟩
    have := over1_act (k := 365) (b hA) (b hB) (by decide) (by decide) p q
    rw [hd hA hB] at this
    exact this
  · refine ⟨_, _, _, _, fun w => Bx w r #[bondF] ∧ Bx w p #[thirtyF r] ∧ Bx w q #[.int .i64 360], rfl, fun _ _ => rfl, stays_and (stays_bx _ _) (stays_and (stays_bx _ _) (stays_bx _ _)), ⟨h1, h2, h3⟩, fun A B n m hA hB hl => ?_⟩
    exact over1_thirty (tN_bound hA.2 hB.2) r p q (stays_bx _ _) (thirty1_bond hA hB r)
  · refine ⟨_, _, _, _, fun w => Bx w r #[euroF] ∧ Bx w p #[thirtyF r] ∧ Bx w q #[.int .i64 360], rfl, fun _ _ => rfl, stays_and (stays_bx _ _) (stays_and (stays_bx _ _) (stays_bx _ _)), ⟨h1, h2, h3⟩, fun A B n m hA hB hl => ?_⟩
    exact over1_thirty (D := eN m - eN n) (by have := eN_bound hA.2; have := eN_bound hB.2; omega) r p q (stays_bx _ _) (thirty1_euro hA hB r)
  · refine ⟨_, _, _, _, fun _ => True, rfl, fun _ _ => rfl, fun _ _ _ _ => trivial, trivial, fun A B n m hA hB hl => ?_⟩
    exact (calendar_any hA hB (by have := hA.1; have := hB.1; omega)).i (fun _ => True)

/-- what the closure of Add reads -/
def AdIs (cb ab pb : Nat) (f g : FuncId) (cap cap' : Array Value) (A : Int) (pn pd : ByteArray) (I : World → Prop) (w : World) : Prop :=
  Bx w cb #[.func (.func f) #[] cap, .func (.func g) #[] cap'] ∧ Bx w ab #[.int .i64 A] ∧ Bx w pb #[.string pn, .string pd] ∧ I w
theorem AdIs.stays {cb ab pb : Nat} {f g : FuncId} {cap cap' : Array Value} {A : Int} {pn pd : ByteArray} {I : World → Prop} (hI : Stays I) : Stays (AdIs cb ab pb f g cap cap' A pn pd I) :=
  fun _ _ h hb => ⟨h.1.on hb, h.2.1.on hb, h.2.2.1.on hb, hI _ _ h.2.2.2 hb⟩
theorem cmpQ_gt {x y : Rat} : decide (0 < cmpQ x y) = decide (y < x) := by
  unfold cmpQ
  by_cases h1 : x < y
  · rw [if_pos h1, decide_eq_decide]
    exact ⟨fun h => by omega, fun h => absurd h (Rat.not_lt.2 (Rat.le_of_lt h1))⟩
  · rw [if_neg h1]
    by_cases h2 : x = y
    · rw [if_pos h2, decide_eq_decide]
      exact ⟨fun h => by omega, fun h => by rw [h2] at h; exact absurd h (Rat.lt_irrefl)⟩
    · rw [if_neg h2, decide_eq_decide]
      refine ⟨fun _ => ?_, fun _ => by decide⟩
      by_cases h : y < x
      · exact h
      · exact absurd (Rat.le_antisymm (Rat.not_lt.1 h) (Rat.not_lt.1 h1)) h2
set_option maxRecDepth 100000 in
set_option maxHeartbeats 4000000 in
theorem add1_any {A B : Int} {n m i c : Nat} (hA : IsDay A n) (hB : IsDay B m) (hi : A + (i : Int) = B) (cb ab pb : Nat) (f g : FuncId) (cap cap' : Array Value) (pn pd : ByteArray) (q : Rat) {k : Nat} (hq : Vq pn pd q) (fq : FitQ k q) (hk : k ≤ 90000) {I : World → Prop} (hI : Stays I)
    (hcf : ∀ (args : Array Value) (u : World), (callFunc g args).run Tryz.prog u = .ok (.enter g args) u)
    (KP : RetI I g (#[.int .i64 A, .int .i64 B] ++ cap') (FR (partQ c n m))) :
    RetI (AdIs cb ab pb f g cap cap' A pn pd I) 105 #[.int .i64 (i : Int), .pointer (some ⟨cb, 0, none⟩), .pointer (some ⟨ab, 0, none⟩), .pointer (some ⟨pb, 0, none⟩)] (.bool (decide (q < partQ c n m))) := by
  intro w hg hi2
  have hs := St.refl hg
  have fp := part_fit (c := c) hA.2 hB.2
  have KC := CmpF (Vq.fr fp (by omega)) hq (fp.sub fq) (by omega)
  have qq := cmpQ_gt (x := partQ c n m) (y := q)
  rw [← qq]
  unfold FR at KP
  unfold FV at KC
  have b1 : A.natAbs < 1000000 := by have := hA.1; have := hA.2; omega
  have b2 : B.natAbs < 1000000 := by have := hB.1; have := hB.2; omega
  clear qq fp fq hq hA hB
  generalize cmpQ (partQ c n m) q = cc at *
  generalize frN (partQ c n m) = rn at *
  generalize frD (partQ c n m) = rd at *
  obtain ⟨c1, c2, c3, c4⟩ := hi2
  have hi1 : ∀ u : Kept w, I u.W := fun u => hI _ _ c4 u.low
  have x0 := c1.keeps (i := 1) rfl
  have x1 := c2.keeps (i := 0) rfl
  have x2 := c3.keeps (i := 0) rfl
  have x3 := c3.keeps (i := 1) rfl
  have b3 : (i : Int) < 2000001 := by omega
  go_enter Tryz.func105, Tryz.ntmps105
  go_wp2_with fail
  refine wp_region_kept (by kernel_rfl) (by kernel_rfl) ?_
  repeat (go_big_quiet_step (first | (with_reducible exact KP.kept hs hi1) | (with_reducible exact KC.kept hs)))
  refine wpQuiet_nil ?_
  rintro _ ⟨u, rfl⟩
  go_wp2_with fail
  go_ret
  exact ⟨rfl, (hs.kept u).2⟩
end Go.Proofs.YtgagjpjlnlandaaGreatDoor
