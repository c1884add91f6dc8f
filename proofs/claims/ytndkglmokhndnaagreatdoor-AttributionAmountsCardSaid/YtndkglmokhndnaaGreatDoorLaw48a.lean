/- Attribution: the walk of AttributionAmounts: for every input it returns true. Condition: the library's table and error lie as the program's text lays them. -/
import Derived.Test.YtndkglmokhndnaaGreatDoorRam
import Derived.Test.YtndkglmokhndnaaGreatDoorAt8
namespace Go.Proofs.YtndkglmokhndnaaGreatDoor
open Go.RowKit Go.Shelf Dec QQ

theorem amtR_len (l : List PrtS) (a : ByteArray) : (amtR l a).length ≤ 32 := by
  unfold amtR
  split
  · rename_i h
    rw [amtsL_len]
    exact totE_len (amtE_ok.1 h).1
  · simp
set_option maxRecDepth 100000 in
set_option maxHeartbeats 4000000 in
theorem amounts48_any {A : Option Addr} {n c : Nat} {l : List PrtS} {a : ByteArray} (w : World) (hn : l.length = n) (hm : n ≤ 9223372036854775807) (hz : ∀ s ∈ l, s.big) (hza : a.size ≤ 9223372036854775807) (hr : Row w A (flatG pcells l)) (hg : Gl w) :
    Calls Tryz.prog 11 #[.slice A n c, .string a] w fun e w' => e = .returned (.bool true) ∧ Below w.heap.size w w' := by
  have hs := St.refl hg
  have AW := awake48
  have KG := many48 (A := A) (c := c) hn hm hz
  have HR := Lib.hid hr
  obtain ⟨t, ht⟩ : ∃ t, manyB l = t := ⟨_, rfl⟩
  rw [ht] at KG
  cases t with
  | true =>
    clear ht hn hm hz hr hza
    go_enter Tryz.func11, Tryz.ntmps11
    go_wp2_with fail
    refine KG.step hs HR.out ?_
    intro w1 hs _
    go_wp2_with fail
    refine AW.step hs ?_
    intro wa hs _
    go_wp2_with fail
    go_ret
    exact ⟨rfl, hs.2⟩
  | false =>
    by_cases h20 : 20 < a.size
    · have q : decide ((20 : Int) < (a.size : Int)) = true := decide_eq_true (by omega)
      have qn : decide (20 < a.size) = true := decide_eq_true h20
      clear ht hn hm hz hr hza h20
      go_enter Tryz.func11, Tryz.ntmps11
      go_wp2_with fail
      refine KG.step hs HR.out ?_
      intro w1 hs _
      go_wp2_with fail
      refine AW.step hs ?_
      intro wa hs _
      go_wp2_with fail
      go_ret
      exact ⟨rfl, hs.2⟩
    have q20 : decide ((20 : Int) < (a.size : Int)) = false := decide_eq_false (by omega)
    have q20n : decide (20 < a.size) = false := decide_eq_false h20
    have hl : 32 < n ∨ FewP 12 l := by have := manyB_not ht; rwa [hn] at this
    have KA := Lib.hid (fun w hg hr => Amounts_any (A := A) (c := c) (a := a) hn hl (by omega) w hg hr)
    have KB := Lib.hid (fun w hg hr => rAmounts_any (A := A) (c := c) (a := a) hn hl (by omega) (by omega) w hg hr)
    have KT := Total_any (A := A) (c := c) hn hl
    have KU := rTotal_any (A := A) (c := c) hn hl
    have KE := Lib.hid (fun A A' c c' => equalI (A := A) (A' := A') (c := c) (c' := c') (xs := amtR l a) rfl (Nat.le_trans (amtR_len l a) (by decide)))
    unfold FR at KT KU
    generalize frN (totQ l) = tn at *
    generalize frD (totQ l) = td at *
    generalize totE l = te at *
    generalize amtE l a = ae at *
    generalize amtR l a = xs at *
    have eF := eqlF tn td tn td
    simp only [beq_self_eq_true, Bool.and_true] at eF
    have q1 : (te == te) = true := by simp
    have q2 : (ae == ae) = true := by simp
    clear ht hn hm hz hr hza h20 hl
    go_enter Tryz.func11, Tryz.ntmps11
    go_wp2_with fail
    refine KG.step hs HR.out ?_
    intro w1 hs _
    go_wp2_with fail
    refine KT.step hs (HR.out.on hs.2) ?_
    intro w2 hs _
    go_wp2_with fail
    have B2 := Bx.new w2 #[.string tn, .string td] 42
    replace hs := hs.alloc (.cells #[.string tn, .string td] 42)
    refine KU.step hs (HR.out.on hs.2) ?_
    intro w3 hs hb3
    replace B2 := B2.on hb3
    go_wp2_with fail
    have B3 := Bx.new w3 #[.string tn, .string td] 42
    replace B2 := B2.alloc (.cells #[.string tn, .string td] 42)
    replace hs := hs.alloc (.cells #[.string tn, .string td] 42)
    refine (KA.out _ hs.gl (HR.out.on hs.2)).mono ?_
    rintro e w4 ⟨v1, rfl, ho1, hb4⟩
    obtain ⟨A1, c1, hv1, hr1⟩ := ho1.row
    subst hv1
    replace hs := hs.on hb4
    replace B2 := B2.on hb4
    replace B3 := B3.on hb4
    have HX := Lib.hid hr1
    clear ho1 hr1 hb4
    go_wp2_with fail
    refine (KB.out _ hs.gl (HR.out.on hs.2)).mono ?_
    rintro e w5 ⟨v2, rfl, ho2, hb5⟩
    obtain ⟨A2, c2, hv2, hr2⟩ := ho2.row
    subst hv2
    replace hs := hs.on hb5
    replace B2 := B2.on hb5
    replace B3 := B3.on hb5
    have HEQ : Hid (Row w5 A1 (flatG icells xs) ∧ Row w5 A2 (flatG icells xs)) := ⟨HX.out.on hb5, hr2⟩
    clear ho2 hr2 hb5 HX
    have KE2 := KE.out A1 A2 c1 c2
    have x0 := B2.cell (i := 0) (v := .string tn) rfl
    have x1 := B2.cell (i := 1) (v := .string td) rfl
    have y0 := B3.cell (i := 0) (v := .string tn) rfl
    have y1 := B3.cell (i := 1) (v := .string td) rfl
    go_wp2_with fail
    refine KE2.step hs HEQ.out ?_
    intro w6 hs _
    go_wp2_with fail
    refine AW.step hs ?_
    intro wa hs _
    go_wp2_with fail
    go_ret
    exact ⟨rfl, hs.2⟩
end Go.Proofs.YtndkglmokhndnaaGreatDoor
