/- Integer: the law's anchor and its look at sizes. Condition: the library's table and error lie as the program's text lays them. Integer: the look at sizes of the law's one, two or three strings. No condition. -/
import Derived.Test.YtahpbnmbphobgaaGreatDoorIe
namespace Go.Proofs.YtahpbnmbphobgaaGreatDoor
open Go.RowKit Go.Shelf Dec

theorem canS_of (t : Bytes) (h : t.all isDig = true) (h0 : t.head? ≠ some 48) : canS (natOf t : Int) = str t := by
  unfold canS canon
  rw [if_neg (by omega), Int.natAbs_natCast, dec_natOf t (fun d hd => List.all_eq_true.1 h d hd) (fun d hd e => h0 (by rw [hd, e]))]
theorem aw1 (w : World) (hg : Gl w) : Calls Tryz.prog 118 #[.string ⟨#[45, 55]⟩, .string ⟨#[50]⟩] w fun e w' => e = .returned (.tuple #[.string ⟨#[45, 52]⟩, .string ⟨#[49]⟩, .int .i64 0]) ∧ Below w.heap.size w w' :=
  (Div_any ⟨#[45, 55]⟩ ⟨#[50]⟩ w (by decide) (by decide) hg).mono fun _ _ h => h
theorem aw2 (w : World) (hg : Gl w) : Calls Tryz.prog 118 #[.string ⟨#[55]⟩, .string ⟨#[45, 50]⟩] w fun e w' => e = .returned (.tuple #[.string ⟨#[45, 52]⟩, .string ⟨#[45, 49]⟩, .int .i64 0]) ∧ Below w.heap.size w w' :=
  (Div_any ⟨#[55]⟩ ⟨#[45, 50]⟩ w (by decide) (by decide) hg).mono fun _ _ h => h
theorem aw3 (w : World) (hg : Gl w) : Calls Tryz.prog 31 #[.string ⟨#[50]⟩, .int .i64 64] w fun e w' => e = .returned (.tuple #[.string ⟨#[49, 56, 52, 52, 54, 55, 52, 52, 48, 55, 51, 55, 48, 57, 53, 53, 49, 54, 49, 54]⟩, .int .i64 0]) ∧ Below w.heap.size w w' := by
  refine (Power_any ⟨#[50]⟩ 64 w (by decide) hg).mono ?_
  rintro e w' ⟨he, hb⟩
  refine ⟨?_, hb⟩
  have h1 : powR (valS ⟨#[50]⟩) 64 = (canS (2 ^ 64), 0) := rfl
  have h2 : canS (2 ^ 64) = str [49, 56, 52, 52, 54, 55, 52, 52, 48, 55, 51, 55, 48, 57, 53, 53, 49, 54, 49, 54] := canS_of [49, 56, 52, 52, 54, 55, 52, 52, 48, 55, 51, 55, 48, 57, 53, 53, 49, 54, 49, 54] (by decide) (by decide)
  rw [he, h1, h2]
  rfl
theorem aw4 (w : World) (hg : Gl w) : Calls Tryz.prog 231 #[.string ⟨#[48, 48, 55]⟩] w fun e w' => e = .returned (.tuple #[.int .i64 7, .bool true]) ∧ Below w.heap.size w w' :=
  (Small_any ⟨#[48, 48, 55]⟩ w (by decide) hg).mono fun _ _ h => h
theorem aw5 (w : World) (hg : Gl w) : Calls Tryz.prog 120 #[.string ⟨#[45, 49, 50]⟩, .string ⟨#[49, 56]⟩] w fun e w' => e = .returned (.string ⟨#[54]⟩) ∧ Below w.heap.size w w' := by
  refine (Gcd_any ⟨#[45, 49, 50]⟩ ⟨#[49, 56]⟩ w (by decide) (by decide) hg).mono ?_
  rintro e w' ⟨he, hb⟩
  refine ⟨?_, hb⟩
  have h1 : Nat.gcd (valS ⟨#[45, 49, 50]⟩).natAbs (valS ⟨#[49, 56]⟩).natAbs = 6 := by decide
  rw [he, h1]
  rfl
theorem aw6 (w : World) : Calls Tryz.prog 105 #[.string ⟨#[49, 120]⟩] w fun e w' => e = .returned (.string ⟨#[]⟩) ∧ Below w.heap.size w w' :=
  (canonical_any ⟨#[49, 120]⟩ w (by decide)).mono fun _ _ h => h
theorem aw7 (w : World) : Calls Tryz.prog 254 #[.string ⟨#[45, 48]⟩] w fun e w' => e = .returned (.string ⟨#[48]⟩) ∧ Below w.heap.size w w' :=
  (print_any ⟨#[45, 48]⟩ w (by decide)).mono fun _ _ h => h


/-- one string is longer than 60 bytes -/
def big (s : ByteArray) : Bool := decide (60 < s.size)
theorem Great_any (a : ByteArray) (w : World) (ha : a.size ≤ 9223372036854775807) : Calls Tryz.prog 15 #[.string a] w fun e w' => e = .returned (.bool (big a)) ∧ w = w' := by
  unfold big
  go_enter Tryz.func15, Tryz.ntmps15
  go_wp2_with fail
  go_ret
  refine ⟨?_, rfl⟩
  have e : decide ((60 : Int) < (a.size : Int)) = decide (60 < a.size) := by rw [decide_eq_decide]; omega
  first | rfl | (rw [← e]; rfl)
end Go.Proofs.YtahpbnmbphobgaaGreatDoor
namespace Go.Proofs.YtahpbnmbphobgaaGreatDoor
open Go.RowKit Go.Shelf Dec


theorem big_false {a : ByteArray} (h : big a = false) : a.size ≤ 60 := by unfold big at h; have := of_decide_eq_false h; omega

end Go.Proofs.YtahpbnmbphobgaaGreatDoor
