/- Integer: the law's anchor and its look at sizes. Condition: the library's table and error lie as the program's text lays them. Integer: the look at sizes of the law's one, two or three strings. No condition. -/
import Derived.Test.YticfdeaphiifeaaGreatDoorIe
namespace Go.Proofs.YticfdeaphiifeaaGreatDoor
open Go.RowKit Go.Shelf Dec
def big (s : ByteArray) : Bool := decide (60 < s.size)
end Go.Proofs.YticfdeaphiifeaaGreatDoor
namespace Go.Proofs.YticfdeaphiifeaaGreatDoor
open Go.RowKit Go.Shelf Dec
end Go.Proofs.YticfdeaphiifeaaGreatDoor
