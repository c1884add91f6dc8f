/- The value of "1". No condition. -/
import Derived.Test.YtdpoagcgglfijaaGreatDoorFc
namespace Go.Proofs.YtdpoagcgglfijaaGreatDoor
open Go.RowKit Go.Shelf Dec QQ
theorem one_val : valS (⟨#[49]⟩ : ByteArray) = 1 := by decide +kernel
end Go.Proofs.YtdpoagcgglfijaaGreatDoor
