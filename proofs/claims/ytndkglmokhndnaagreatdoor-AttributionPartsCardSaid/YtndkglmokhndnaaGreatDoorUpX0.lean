/- Unit prices: sizes of what comes of a deal. No condition. -/
import Derived.Test.YtndkglmokhndnaaGreatDoorUb
namespace Go.Proofs.YtndkglmokhndnaaGreatDoor
open Go.RowKit Go.Shelf Dec QQ

theorem Fit.sub20 {k m : Nat} {y z : Int} (h : Fit k y) (h2 : Fit m z) : Fit (k + m + 1) (y - z) := Fit.sub (h.mono (by omega)) (h2.mono (by omega))
theorem Fit.add20 {k m : Nat} {y z : Int} (h : Fit k y) (h2 : Fit m z) : Fit (k + m + 1) (y + z) := Fit.add (h.mono (by omega)) (h2.mono (by omega))
theorem deal_size0 (u v p b : ByteArray) : (DealR u v p b).units.size ≤ 2 * u.size + p.size + b.size + 10 ∧ (DealR u v p b).value.size ≤ 2 * v.size + p.size + b.size + 10 := by
  unfold DealR
  split
  · exact ⟨Nat.zero_le _, Nat.zero_le _⟩
  · unfold dealR
    split
    · exact ⟨Nat.zero_le _, Nat.zero_le _⟩
    · split
      · exact ⟨Nat.zero_le _, Nat.zero_le _⟩
      · have h1 := issue_size v u p
        have h2 := cancel_size v u b
        refine ⟨Nat.le_trans (Fit.size (((Fit.val (Nat.le_refl _)).add20 (Fit.val h1)).sub20 (Fit.val (Nat.le_refl _)))) (by omega), Nat.le_trans (Fit.size (((Fit.val (Nat.le_refl _)).add20 (Fit.val (Nat.le_refl _))).sub20 (Fit.val h2))) (by omega)⟩
end Go.Proofs.YtndkglmokhndnaaGreatDoor
