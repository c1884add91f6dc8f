/- Attribution: the contract of Amounts for any parts. Conditions: up to five parts with numbers of bounded length, or more than 32. -/
import Derived.Test.YtndkglmokhndnaaGreatDoorAt9
namespace Go.Proofs.YtndkglmokhndnaaGreatDoor
open Go.RowKit Go.Shelf Dec QQ

set_option maxRecDepth 100000 in
set_option maxHeartbeats 4000000 in
theorem Amounts_any {A : Option Addr} {n c k0 : Nat} {l : List PrtS} {a : ByteArray} (hn : l.length = n) (hl : 32 < n ∨ FewP k0 l) (ha : a.size ≤ 1000) (w : World) (hg : Gl w) (hr : Row w A (flatG pcells l)) :
    Calls Tryz.prog 41 #[.slice A n c, .string a] w fun e w' => ∃ v, e = .returned (.tuple #[v, .int .i64 (amtE l a)]) ∧ OutG icells 30 1 w.heap.size w' v (amtR l a).length (amtR l a) ∧ Below w.heap.size w w' := by
  by_cases he : totE l = 0
  · have hf : FewP k0 l := by
      rcases hl with h | h
      · have := totE_len he; omega
      · exact h
    by_cases hk : chk a = 0
    · by_cases h0 : totQ l = 0
      · have e1 : amtE l a = 10 := by unfold amtE; rw [if_neg (by simpa using he), if_neg (by simpa using hk), if_pos h0]
        have e2 : amtR l a = [] := by unfold amtR; rw [e1]; rfl
        rw [e1, e2]
        have hs := St.refl hg
        have Hr := Lib.hid hr
        have KT := Total_any (A := A) (c := c) hn hl
        have KC := ChkR (a := a) (by omega)
        rw [he, h0] at KT
        rw [hk] at KC
        unfold FR at KT
        rw [frN_zero, frD_zero] at KT
        have eqz := eqlF ⟨#[]⟩ ⟨#[]⟩ ⟨#[]⟩ ⟨#[]⟩
        simp only [beq_self_eq_true, Bool.and_true] at eqz
        clear hn hl hf he hk h0 hr e1 e2 ha
        go_enter Tryz.func41, Tryz.ntmps41
        go_wp2_with fail
        refine KT.step hs Hr.out ?_
        intro w1 hs hb1
        go_wp2_with fail
        have XT := Bx.new w1 #[.string ⟨#[]⟩, .string ⟨#[]⟩] 42
        replace hs := hs.alloc (.cells #[.string ⟨#[]⟩, .string ⟨#[]⟩] 42)
        refine KC.step hs ?_
        intro w2 hs hb2
        replace XT := XT.on hb2
        have y0 := XT.cell (i := 0) (v := .string ⟨#[]⟩) rfl
        have y1 := XT.cell (i := 1) (v := .string ⟨#[]⟩) rfl
        go_wp2_with fail
        go_ret2
        exact ⟨_, rfl, ⟨rfl, World.ownsRow_nil _ _ _ _⟩, hs.2⟩
      · have e1 : amtE l a = 0 := amtE_ok.2 ⟨he, hk, h0⟩
        have e2 : amtR l a = amtsL (totQ l) (valS a) l n := by unfold amtR; rw [e1, if_pos rfl, hn]
        rw [e1, e2, amtsL_len]
        exact amounts_few hn hf ha he hk h0 w hg hr
    · have e1 : amtE l a = 1 := by unfold amtE; rw [if_neg (by simpa using he), if_pos hk]
      have e2 : amtR l a = [] := by unfold amtR; rw [e1]; rfl
      rw [e1, e2]
      have hs := St.refl hg
      have Hr := Lib.hid hr
      have KT := Total_any (A := A) (c := c) hn hl
      have KC := ChkR (a := a) (by omega)
      rw [he] at KT
      have q : (chk a != 0) = true := by simpa using hk
      unfold FR at KT
      generalize frN (totQ l) = tn at *
      generalize frD (totQ l) = td at *
      generalize chk a = ca at *
      clear hn hl hf he hk hr e1 e2 ha
      go_enter Tryz.func41, Tryz.ntmps41
      go_wp2_with fail
      refine KT.step hs Hr.out ?_
      intro w1 hs hb1
      go_wp2_with fail
      replace hs := hs.alloc (.cells #[.string tn, .string td] 42)
      refine KC.step hs ?_
      intro w2 hs hb2
      go_wp2_with fail
      go_ret2
      exact ⟨_, rfl, ⟨rfl, World.ownsRow_nil _ _ _ _⟩, hs.2⟩
  · have e1 : amtE l a = totE l := if_pos he
    have e2 : amtR l a = [] := by unfold amtR; rw [e1, if_neg he]
    rw [e1, e2]
    have hs := St.refl hg
    have Hr := Lib.hid hr
    have KT := Total_any (A := A) (c := c) hn hl
    have q : (totE l != 0) = true := by simpa using he
    unfold FR at KT
    generalize frN (totQ l) = tn at *
    generalize frD (totQ l) = td at *
    generalize totE l = ca at *
    clear hn hl he hr e1 e2 ha
    go_enter Tryz.func41, Tryz.ntmps41
    go_wp2_with fail
    refine KT.step hs Hr.out ?_
    intro w1 hs hb1
    go_wp2_with fail
    replace hs := hs.alloc (.cells #[.string tn, .string td] 42)
    go_ret2
    exact ⟨_, rfl, ⟨rfl, World.ownsRow_nil _ _ _ _⟩, hs.2⟩
end Go.Proofs.YtndkglmokhndnaaGreatDoor
