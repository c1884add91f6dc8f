/- Fees: the contracts of Total and of its reference; the walk of FeeTotals. Conditions: up to twelve charges of bounded length. -/
import Derived.Test.YticfdeaphiifeaaGreatDoorFpl
namespace Go.Proofs.YticfdeaphiifeaaGreatDoor
open Go.RowKit Go.Shelf Dec QQ
theorem chcells_len (c : ChS) : (chcells c).length = 5 := rfl
end Go.Proofs.YticfdeaphiifeaaGreatDoor
