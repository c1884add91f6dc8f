/- The value of "1". No condition. -/
import Derived.Test.YtpipkeplhkccoaaGreatDoorFc
namespace Go.Proofs.YtpipkeplhkccoaaGreatDoor
open Go.RowKit Go.Shelf Dec QQ
theorem one_val : valS (⟨#[49]⟩ : ByteArray) = 1 := by decide +kernel
end Go.Proofs.YtpipkeplhkccoaaGreatDoor
