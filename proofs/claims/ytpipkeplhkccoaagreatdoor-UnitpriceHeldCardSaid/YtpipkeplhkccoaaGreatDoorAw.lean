/- Integer: the law's anchor and its look at sizes. Condition: the library's table and error lie as the program's text lays them. Integer: the look at sizes of the law's one, two or three strings. No condition. -/
import Derived.Test.YtpipkeplhkccoaaGreatDoorIe
namespace Go.Proofs.YtpipkeplhkccoaaGreatDoor
open Go.RowKit Go.Shelf Dec

theorem canS_of (t : Bytes) (h : t.all isDig = true) (h0 : t.head? ≠ some 48) : canS (natOf t : Int) = str t := by
  unfold canS canon
  rw [if_neg (by omega), Int.natAbs_natCast, dec_natOf t (fun d hd => List.all_eq_true.1 h d hd) (fun d hd e => h0 (by rw [hd, e]))]
theorem aw1 (w : World) (hg : Gl w) : Calls Tryz.prog 74 #[.string ⟨#[45, 55]⟩, .string ⟨#[50]⟩] w fun e w' => e = .returned (.tuple #[.string ⟨#[45, 52]⟩, .string ⟨#[49]⟩, .int .i64 0]) ∧ Below w.heap.size w w' :=
  (Div_any ⟨#[45, 55]⟩ ⟨#[50]⟩ w (by decide) (by decide) hg).mono fun _ _ h => h
theorem aw2 (w : World) (hg : Gl w) : Calls Tryz.prog 74 #[.string ⟨#[55]⟩, .string ⟨#[45, 50]⟩] w fun e w' => e = .returned (.tuple #[.string ⟨#[45, 52]⟩, .string ⟨#[45, 49]⟩, .int .i64 0]) ∧ Below w.heap.size w w' :=
  (Div_any ⟨#[55]⟩ ⟨#[45, 50]⟩ w (by decide) (by decide) hg).mono fun _ _ h => h
theorem aw4 (w : World) (hg : Gl w) : Calls Tryz.prog 166 #[.string ⟨#[48, 48, 55]⟩] w fun e w' => e = .returned (.tuple #[.int .i64 7, .bool true]) ∧ Below w.heap.size w w' :=
  (Small_any ⟨#[48, 48, 55]⟩ w (by decide) hg).mono fun _ _ h => h
theorem aw5 (w : World) (hg : Gl w) : Calls Tryz.prog 89 #[.string ⟨#[45, 49, 50]⟩, .string ⟨#[49, 56]⟩] w fun e w' => e = .returned (.string ⟨#[54]⟩) ∧ Below w.heap.size w w' := by
  refine (Gcd_any ⟨#[45, 49, 50]⟩ ⟨#[49, 56]⟩ w (by decide) (by decide) hg).mono ?_
  rintro e w' ⟨he, hb⟩
  refine ⟨?_, hb⟩
  have h1 : Nat.gcd (valS ⟨#[45, 49, 50]⟩).natAbs (valS ⟨#[49, 56]⟩).natAbs = 6 := by decide
  rw [he, h1]
  rfl
theorem aw6 (w : World) : Calls Tryz.prog 45 #[.string ⟨#[49, 120]⟩] w fun e w' => e = .returned (.string ⟨#[]⟩) ∧ Below w.heap.size w w' :=
  (canonical_any ⟨#[49, 120]⟩ w (by decide)).mono fun _ _ h => h
theorem aw7 (w : World) : Calls Tryz.prog 205 #[.string ⟨#[45, 48]⟩] w fun e w' => e = .returned (.string ⟨#[48]⟩) ∧ Below w.heap.size w w' :=
  (print_any ⟨#[45, 48]⟩ w (by decide)).mono fun _ _ h => h


/-- one string is longer than 60 bytes -/
def big (s : ByteArray) : Bool := decide (60 < s.size)
end Go.Proofs.YtpipkeplhkccoaaGreatDoor
namespace Go.Proofs.YtpipkeplhkccoaaGreatDoor
open Go.RowKit Go.Shelf Dec


theorem big_false {a : ByteArray} (h : big a = false) : a.size ≤ 60 := by unfold big at h; have := of_decide_eq_false h; omega

end Go.Proofs.YtpipkeplhkccoaaGreatDoor
