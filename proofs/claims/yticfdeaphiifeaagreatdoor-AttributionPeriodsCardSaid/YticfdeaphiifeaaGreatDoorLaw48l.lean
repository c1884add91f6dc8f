/- Attribution: the walk of AttributionLinks: for every input it returns true. Condition: the library's table and error lie as the program's text lays them. -/
import Derived.Test.YticfdeaphiifeaaGreatDoorEqG
import Derived.Test.YticfdeaphiifeaaGreatDoorRlk2
import Derived.Test.YticfdeaphiifeaaGreatDoorAt8
namespace Go.Proofs.YticfdeaphiifeaaGreatDoor
open Go.RowKit Go.Shelf Dec QQ
theorem linkE_few {L : List (List SecS)} (hl : 64 < L.length ∨ L.length ≤ 3) (hp : PerN L) (h : linkE L = 0) : FewN L := by
 have hall := link_all h
 have h64 : L.length ≤ 64 := by
  unfold linkE at h
  rw [if_neg (by omega)] at h
  refine Decidable.byContradiction fun hc => ?_
  rw [if_pos (by omega)] at h
  cases h
 refine ⟨by omega, fun l hm => ?_⟩
 obtain ⟨i, hi, rfl⟩ := List.mem_iff_getElem.1 hm
 exact chk_few (hp _ hm) (hall.2 i _ (List.getElem?_eq_getElem hi)).1
theorem link_lens {L : List (List SecS)} (h : linkE L = 0) : ∀ t, t < L.length → (L.getD t []).length = (L.getD 0 []).length := (linkE_ok h).2.2
theorem linkR_len (L : List (List SecS)) : (linkR L).length = if linkE L = 0 then (L.getD 0 []).length else 0 := by
 unfold linkR
 split
 ·rename_i h
  exact linkTo_len (link_lens h) _ (Nat.le_refl _)
 ·rfl
theorem linkR_max (L : List (List SecS)) : (linkR L).length ≤ 32 := by
 rw [linkR_len]
 split
 ·rename_i h
  have h1 := link_all h
  obtain ⟨d, hd⟩ : ∃ d, L[0]? = some d := ⟨L[0]'h1.1, by simp⟩
  have h2 := (chkS_iff.1 (h1.2 0 d hd).1).few
  rw [List.getD_eq_getElem?_getD, hd]
  exact h2
 ·omega
theorem Link_any {A : Option Addr} {n c : Nat} {L : List (List SecS)} (hn : L.length = n) (hl : 64 < n ∨ n ≤ 3) (hp : PerN L) (w : World) (hg : Gl w) (hr : NRow w A L) :
  Calls Tryz.prog 10 #[.slice A n c] w fun e w' => ∃ v, e = .returned (.tuple #[v, .int .i64 (linkE L)]) ∧ OutG pcells 36 7 w.heap.size w' v (linkR L).length (linkR L) ∧ Below w.heap.size w w' := by
 by_cases h : linkE L = 0
 ·have e1 : linkR L = linkTo L (L.getD 0 []).length L.length := if_pos h
  have e2 := linkR_len L
  rw [if_pos h] at e2
  rw [e2, e1, h]
  exact link_few hn (linkE_few (by rw [hn]; exact hl) hp h) h w hg hr
 ·have e1 : linkR L = [] := if_neg h
  rw [e1]
  refine (link_bad hn hl hp h w hg hr).mono ?_
  rintro e w' ⟨rfl, hb⟩
  exact ⟨_, rfl, ⟨rfl, World.ownsRow_nil _ _ _ _⟩, hb⟩
theorem rLink_any {A : Option Addr} {n c : Nat} {L : List (List SecS)} (hn : L.length = n) (hl : 64 < n ∨ n ≤ 3) (hp : PerN L) (w : World) (hg : Gl w) (hr : NRow w A L) :
  Calls Tryz.prog 11 #[.slice A n c] w fun e w' => ∃ v, e = .returned (.tuple #[v, .int .i64 (linkE L)]) ∧ OutG pcells 36 7 w.heap.size w' v (linkR L).length (linkR L) ∧ Below w.heap.size w w' := by
 by_cases h : linkE L = 0
 ·have e1 : linkR L = linkTo L (L.getD 0 []).length L.length := if_pos h
  have e2 := linkR_len L
  rw [if_pos h] at e2
  rw [e2, e1, h, ← link_same (link_lens h) (linkE_ok h).1]
  exact rlink_few hn (linkE_few (by rw [hn]; exact hl) hp h) h w hg hr
 ·have e1 : linkR L = [] := if_neg h
  rw [e1]
  refine (rlink_bad hn hl hp h w hg hr).mono ?_
  rintro e w' ⟨rfl, hb⟩
  exact ⟨_, rfl, ⟨rfl, World.ownsRow_nil _ _ _ _⟩, hb⟩
theorem great_not {L : List (List SecS)} (h : L.any greatB = false) : PerN L := fun l hl => greatB_not (by have := List.any_eq_false.1 h l hl; simpa using this)
set_option maxRecDepth 100000 in
set_option maxHeartbeats 4000000 in
theorem links48_any {A : Option Addr} {n c : Nat} {L : List (List SecS)} (w : World) (hn : L.length = n) (hm : n ≤ 9223372036854775807) (hz : ∀ l ∈ L, ∀ s ∈ l, s.big) (hr : NRow w A L) (hg : Gl w) :
  Calls Tryz.prog 3 #[.slice A n c] w fun e w' => e = .returned (.bool true) ∧ Below w.heap.size w w' := by
 have hs := St.refl hg
 have AW := awake48
 have HR := Lib.hid hr
 by_cases hb : (3 < n ∧ n ≤ 64) ∨ 66 < n
 ·have q1 : decide ((3 : Int) < (n : Int)) = true := decide_eq_true (by omega)
  have q1n : decide (3 < n) = true := decide_eq_true (by omega)
  by_cases h2 : n ≤ 64
  ·have q2 : decide ((n : Int) ≤ 64) = true := decide_eq_true (by omega)
   have q2n : decide (n ≤ 64) = true := decide_eq_true h2
   clear hn hm hz hr hb h2
   go_enter Tryz.func3, Tryz.ntmps3
   go_wp2_with fail
   refine AW.step hs ?_
   intro wa hs _
   go_wp2_with fail
   go_ret
   exact ⟨rfl, hs.2⟩
  ·have q2 : decide ((n : Int) ≤ 64) = false := decide_eq_false (by omega)
   have q2n : decide (n ≤ 64) = false := decide_eq_false h2
   have q3 : decide ((66 : Int) < (n : Int)) = true := decide_eq_true (by omega)
   have q3n : decide (66 < n) = true := decide_eq_true (by omega)
   clear hn hm hz hr hb h2
   go_enter Tryz.func3, Tryz.ntmps3
   go_wp2_with fail
   refine AW.step hs ?_
   intro wa hs _
   go_wp2_with fail
   go_ret
   exact ⟨rfl, hs.2⟩
 have hl : 64 < n ∨ n ≤ 3 := by omega
 have q3 : decide ((66 : Int) < (n : Int)) = false := decide_eq_false (by omega)
 have q3n : decide (66 < n) = false := decide_eq_false (by omega)
 have KG := containsN (A := A) (c := c) (L := L) (f := 8) (p := greatB) hn (by omega) (fun _ _ => rfl) (fun s hs B cc h1 h2 => great48 (A := B) (c := cc) rfl (by omega) (hz s hs))
 obtain ⟨t, ht⟩ : ∃ t, L.any greatB = t := ⟨_, rfl⟩
 rw [ht] at KG
 by_cases h3 : n ≤ 3
 ·have q1 : decide ((3 : Int) < (n : Int)) = false := decide_eq_false (by omega)
  have q1n : decide (3 < n) = false := decide_eq_false (by omega)
  clear h3
  cases t with
  | true =>
   clear ht hn hm hz hr hb hl
   go_enter Tryz.func3, Tryz.ntmps3
   go_wp2_with fail
   refine KG.step hs HR.out ?_
   intro w1 hs _
   go_wp2_with fail
   refine AW.step hs ?_
   intro wa hs _
   go_wp2_with fail
   go_ret
   exact ⟨rfl, hs.2⟩
  | false =>
   have hp := great_not ht
   have KL := Lib.hid (fun w hg hr => Link_any (A := A) (c := c) hn hl hp w hg hr)
   have KL' := Lib.hid (fun w hg hr => rLink_any (A := A) (c := c) hn hl hp w hg hr)
   have KE := Lib.hid (fun A A' c c' => equalP (A := A) (A' := A') (c := c) (c' := c') (xs := linkR L) rfl (Nat.le_trans (linkR_max L) (by decide)))
   generalize linkR L = ps at *
   generalize linkE L = le at *
   have q5 : (le == le) = true := by simp
   clear ht hn hm hz hr hb hl hp
   go_enter Tryz.func3, Tryz.ntmps3
   go_wp2_with fail
   refine KG.step hs HR.out ?_
   intro w1 hs _
   go_wp2_with fail
   refine (KL.out _ hs.gl (HR.out.on hs.2)).mono ?_
   rintro e w2 ⟨v1, rfl, ho1, hb2⟩
   obtain ⟨A1, c1, hv1, hr1⟩ := ho1.row
   subst hv1
   replace hs := hs.on hb2
   have HR1 := Lib.hid hr1
   clear ho1 hr1 hb2
   go_wp2_with fail
   refine (KL'.out _ hs.gl (HR.out.on hs.2)).mono ?_
   rintro e w3 ⟨v2, rfl, ho2, hb3⟩
   obtain ⟨A2, c2, hv2, hr2⟩ := ho2.row
   subst hv2
   replace hs := hs.on hb3
   have HR2 : Hid (Row w3 A1 (flatG pcells ps) ∧ Row w3 A2 (flatG pcells ps)) := ⟨HR1.out.on hb3, hr2⟩
   clear ho2 hr2 hb3 HR1
   go_wp2_with fail
   refine (KE.out A1 A2 c1 c2).step hs HR2.out ?_
   intro w4 hs _
   go_wp2_with fail
   refine AW.step hs ?_
   intro wa hs _
   go_wp2_with fail
   go_ret
   exact ⟨rfl, hs.2⟩
 ·have q1 : decide ((3 : Int) < (n : Int)) = true := decide_eq_true (by omega)
  have q1n : decide (3 < n) = true := decide_eq_true (by omega)
  have q2 : decide ((n : Int) ≤ 64) = false := decide_eq_false (by omega)
  have q2n : decide (n ≤ 64) = false := decide_eq_false (by omega)
  clear h3
  cases t with
  | true =>
   clear ht hn hm hz hr hb hl
   go_enter Tryz.func3, Tryz.ntmps3
   go_wp2_with fail
   refine KG.step hs HR.out ?_
   intro w1 hs _
   go_wp2_with fail
   refine AW.step hs ?_
   intro wa hs _
   go_wp2_with fail
   go_ret
   exact ⟨rfl, hs.2⟩
  | false =>
   have hp := great_not ht
   have KL := Lib.hid (fun w hg hr => Link_any (A := A) (c := c) hn hl hp w hg hr)
   have KL' := Lib.hid (fun w hg hr => rLink_any (A := A) (c := c) hn hl hp w hg hr)
   have KE := Lib.hid (fun A A' c c' => equalP (A := A) (A' := A') (c := c) (c' := c') (xs := linkR L) rfl (Nat.le_trans (linkR_max L) (by decide)))
   generalize linkR L = ps at *
   generalize linkE L = le at *
   have q5 : (le == le) = true := by simp
   clear ht hn hm hz hr hb hl hp
   go_enter Tryz.func3, Tryz.ntmps3
   go_wp2_with fail
   refine KG.step hs HR.out ?_
   intro w1 hs _
   go_wp2_with fail
   refine (KL.out _ hs.gl (HR.out.on hs.2)).mono ?_
   rintro e w2 ⟨v1, rfl, ho1, hb2⟩
   obtain ⟨A1, c1, hv1, hr1⟩ := ho1.row
   subst hv1
   replace hs := hs.on hb2
   have HR1 := Lib.hid hr1
   clear ho1 hr1 hb2
   go_wp2_with fail
   refine (KL'.out _ hs.gl (HR.out.on hs.2)).mono ?_
   rintro e w3 ⟨v2, rfl, ho2, hb3⟩
   obtain ⟨A2, c2, hv2, hr2⟩ := ho2.row
   subst hv2
   replace hs := hs.on hb3
   have HR2 : Hid (Row w3 A1 (flatG pcells ps) ∧ Row w3 A2 (flatG pcells ps)) := ⟨HR1.out.on hb3, hr2⟩
   clear ho2 hr2 hb3 HR1
   go_wp2_with fail
   refine (KE.out A1 A2 c1 c2).step hs HR2.out ?_
   intro w4 hs _
   go_wp2_with fail
   refine AW.step hs ?_
   intro wa hs _
   go_wp2_with fail
   go_ret
   exact ⟨rfl, hs.2⟩
end Go.Proofs.YticfdeaphiifeaaGreatDoor
