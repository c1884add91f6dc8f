/- Unit prices: the law's look at sizes and its anchor. Condition: the library's table and error lie as the program's text lays them. -/
import Derived.Test.YtonopbelbehheaaGreatDoorUpB
namespace Go.Proofs.YtonopbelbehheaaGreatDoor
open Go.RowKit Go.Shelf Dec QQ

set_option maxRecDepth 100000 in
set_option maxHeartbeats 4000000 in
theorem great44_1 {s : ByteArray} (h : s.size ≤ 9223372036854775807) : Ret 90 #[.string s] (.bool (decide (20 < s.size))) := by
  intro w hg
  have hs := St.refl hg
  have q : decide ((20 : Int) < (s.size : Int)) = decide (20 < s.size) := by simp; omega
  generalize decide (20 < s.size) = t at *
  go_enter Tryz.func90, Tryz.ntmps90
  go_wp2_with fail
  go_ret
  exact ⟨rfl, hs.2⟩
set_option maxRecDepth 100000 in
set_option maxHeartbeats 4000000 in
theorem great44_any {A : Option Addr} {n c : Nat} {l : List ByteArray} (hn : l.length = n) (hm : n ≤ 4611686018427387904) (hl : ∀ s ∈ l, s.size ≤ 9223372036854775807) :
    RetI (fun w => Row w A (l.map sv)) 31 #[.slice A n c] (.bool (l.any fun s => decide (20 < s.size))) := by
  intro w hg hi
  have hs := St.refl hg
  have K1 := contains_any (A := A) (c := c) (cap := #[]) (f := 90) (p := fun s => decide (20 < s.size)) (I := fun _ => True) (fun _ _ _ _ => trivial) hn hm (fun _ _ => rfl) (fun s hs => (great44_1 (hl s hs)).i _)
  clear hl
  generalize (l.any fun s => decide (20 < s.size)) = v1 at *
  have Hi := Lib.hid hi
  clear hi hn
  go_enter Tryz.func31, Tryz.ntmps31
  go_wp2_with fail
  refine K1.step hs ⟨Hi.out, trivial⟩ ?_
  intro w1 hs hb
  go_wp2_with fail
  go_ret
  exact ⟨rfl, hs.2⟩
theorem aw44d : (DealR ⟨#[51, 48, 48]⟩ ⟨#[49, 48, 48, 48]⟩ ⟨#[49, 48, 49]⟩ ⟨#[53, 48]⟩).val = .agg #[.string ⟨#[51, 48]⟩, .string ⟨#[49, 54, 54]⟩, .string ⟨#[50, 56, 48]⟩, .string ⟨#[57, 51, 53]⟩] ∧ (DealR ⟨#[51, 48, 48]⟩ ⟨#[49, 48, 48, 48]⟩ ⟨#[49, 48, 49]⟩ ⟨#[53, 48]⟩).err = 0 := by
  have h1 : (DealR ⟨#[51, 48, 48]⟩ ⟨#[49, 48, 48, 48]⟩ ⟨#[49, 48, 49]⟩ ⟨#[53, 48]⟩).issued = ⟨#[51, 48]⟩ := by decide +kernel
  have h2 : (DealR ⟨#[51, 48, 48]⟩ ⟨#[49, 48, 48, 48]⟩ ⟨#[49, 48, 49]⟩ ⟨#[53, 48]⟩).paid = ⟨#[49, 54, 54]⟩ := by decide +kernel
  have h3 : (DealR ⟨#[51, 48, 48]⟩ ⟨#[49, 48, 48, 48]⟩ ⟨#[49, 48, 49]⟩ ⟨#[53, 48]⟩).units = ⟨#[50, 56, 48]⟩ := by decide +kernel
  have h4 : (DealR ⟨#[51, 48, 48]⟩ ⟨#[49, 48, 48, 48]⟩ ⟨#[49, 48, 49]⟩ ⟨#[53, 48]⟩).value = ⟨#[57, 51, 53]⟩ := by decide +kernel
  exact ⟨by unfold DealtR.val; rw [h1, h2, h3, h4], by decide +kernel⟩
theorem aw44p : FR (PriceR ⟨#[49, 48, 48, 48]⟩ ⟨#[51, 48, 48]⟩).1 = .agg #[.string ⟨#[49, 48]⟩, .string ⟨#[51]⟩] ∧ (PriceR ⟨#[49, 48, 48, 48]⟩ ⟨#[51, 48, 48]⟩).2 = 0 := by
  have h1 : frN (PriceR ⟨#[49, 48, 48, 48]⟩ ⟨#[51, 48, 48]⟩).1 = ⟨#[49, 48]⟩ := by decide +kernel
  have h2 : frD (PriceR ⟨#[49, 48, 48, 48]⟩ ⟨#[51, 48, 48]⟩).1 = ⟨#[51]⟩ := by decide +kernel
  exact ⟨by unfold FR; rw [h1, h2], by decide +kernel⟩
theorem eqlD (a b c d a' b' c' d' : ByteArray) (u : World) : (binOp .eql 36 (.agg #[.string a, .string b, .string c, .string d]) (.agg #[.string a', .string b', .string c', .string d'])).run Tryz.prog u = .ok (.bool ((a.toList == a'.toList) && (b.toList == b'.toList) && (c.toList == c'.toList) && (d.toList == d'.toList))) u := by
  simp [go_sem]
  repeat' split
  all_goals simp_all
set_option maxRecDepth 100000 in
set_option maxHeartbeats 4000000 in
theorem awake44 : Ret 32 #[] (.bool true) := by
  intro w hg
  have hs := St.refl hg
  have K1 := Deal_any (u := ⟨#[51, 48, 48]⟩) (v := ⟨#[49, 48, 48, 48]⟩) (p := ⟨#[49, 48, 49]⟩) (b := ⟨#[53, 48]⟩) 0 (by decide) (by decide) (by decide) (by decide)
  have K2 := Price_any (v := ⟨#[49, 48, 48, 48]⟩) (u := ⟨#[51, 48, 48]⟩) (by decide) (by decide)
  rw [aw44d.1, aw44d.2] at K1
  rw [aw44p.1, aw44p.2] at K2
  unfold dealV at K1
  have e1 := fun u => eqlD ⟨#[51, 48]⟩ ⟨#[49, 54, 54]⟩ ⟨#[50, 56, 48]⟩ ⟨#[57, 51, 53]⟩ ⟨#[51, 48]⟩ ⟨#[49, 54, 54]⟩ ⟨#[50, 56, 48]⟩ ⟨#[57, 51, 53]⟩ u
  have e2 := fun u => eqlF ⟨#[49, 48]⟩ ⟨#[51]⟩ ⟨#[49, 48]⟩ ⟨#[51]⟩ u
  simp only [beq_self_eq_true, Bool.and_true] at e1 e2
  go_enter Tryz.func32, Tryz.ntmps32
  go_wp2_with fail
  refine K1.step hs ?_
  intro w1 hs _
  go_wp2_with fail
  refine K2.step (hs.alloc _) ?_
  intro w2 hs hb
  have B := (Bx.new w1 #[.string ⟨#[51, 48]⟩, .string ⟨#[49, 54, 54]⟩, .string ⟨#[50, 56, 48]⟩, .string ⟨#[57, 51, 53]⟩] 36).on hb
  have B2 := B.alloc (.cells #[.string ⟨#[49, 48]⟩, .string ⟨#[51]⟩] 43)
  have x0 := B.cell (i := 0) (v := .string ⟨#[51, 48]⟩) rfl
  have x1 := B.cell (i := 1) (v := .string ⟨#[49, 54, 54]⟩) rfl
  have x2 := B.cell (i := 2) (v := .string ⟨#[50, 56, 48]⟩) rfl
  have x3 := B.cell (i := 3) (v := .string ⟨#[57, 51, 53]⟩) rfl
  have hlt : w1.heap.size < w2.heap.size := B.lt
  go_wp2_with fail
  go_ret
  exact ⟨rfl, (hs.alloc _).2⟩
end Go.Proofs.YtonopbelbehheaaGreatDoor
