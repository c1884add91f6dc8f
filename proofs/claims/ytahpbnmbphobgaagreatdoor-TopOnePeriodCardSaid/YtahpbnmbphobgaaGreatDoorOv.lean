/- The value of "1". No condition. -/
import Derived.Test.YtahpbnmbphobgaaGreatDoorFc
namespace Go.Proofs.YtahpbnmbphobgaaGreatDoor
open Go.RowKit Go.Shelf Dec QQ
theorem one_val : valS (⟨#[49]⟩ : ByteArray) = 1 := by decide +kernel
end Go.Proofs.YtahpbnmbphobgaaGreatDoor
