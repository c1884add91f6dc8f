/- Unit prices, the reference: contracts of Price, Issue, Cancel and Deal: what the program's functions return. Conditions: strings of up to twenty thousand bytes. -/
import Derived.Test.YtndkglmokhndnaaGreatDoorRg4
namespace Go.Proofs.YtndkglmokhndnaaGreatDoor
open Go.RowKit Go.Shelf Dec QQ

theorem isNil_val {s : ByteArray} (h : s = canS (valS s)) : isNil s = decide (valS s = 0) := by
  cases hn : isNil s with
  | true => exact (decide_eq_true (nil_val hn)).symm
  | false => exact (decide_eq_false (val_ne h hn)).symm
end Go.Proofs.YtndkglmokhndnaaGreatDoor
