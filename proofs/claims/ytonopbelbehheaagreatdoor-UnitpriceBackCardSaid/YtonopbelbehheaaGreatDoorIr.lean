/- Integer: the contracts in the walk's form. Conditions: strings of up to a million bytes. -/
import Derived.Test.YtonopbelbehheaaGreatDoorSt
namespace Go.Proofs.YtonopbelbehheaaGreatDoor
open Go.RowKit Go.Shelf Dec
section
variable {a b : ByteArray} {x y : Int}
theorem AddR (h1 : Vs a x) (h2 : Vs b y) : Ret 23 #[.string a, .string b] (.string (canS (x + y))) := fun w hg => AddV h1 h2 w hg
theorem SubR (h1 : Vs a x) (h2 : Vs b y) : Ret 25 #[.string a, .string b] (.string (canS (x - y))) := fun w hg => SubV h1 h2 w hg
theorem MulR (h1 : Vs a x) (h2 : Vs b y) : Ret 27 #[.string a, .string b] (.string (canS (x * y))) := fun w hg => MulV h1 h2 w hg
theorem NegR (h1 : Vs a x) : Ret 187 #[.string a] (.string (canS (-x))) := fun w hg => NegV h1 w hg
theorem CmpR (h1 : Vs a x) (h2 : Vs b y) : Ret 29 #[.string a, .string b] (.int .i64 (cmpI x y)) := fun w _ => CmpV h1 h2 w
theorem DivR (h1 : Vs a x) (h2 : Vs b y) (hy : y ≠ 0) : Ret 17 #[.string a, .string b] (.tuple #[.string (canS (x.fdiv y)), .string (canS (x.fmod y)), .int .i64 0]) := fun w hg => DivN h1 h2 hy w hg
theorem GcdR (h1 : Vs a x) (h2 : Vs b y) : Ret 19 #[.string a, .string b] (.string (canS (Nat.gcd x.natAbs y.natAbs : Nat))) := fun w hg => GcdV h1 h2 w hg
theorem CanR (h1 : Vs a x) : Ret 68 #[.string a] (.string (canS x)) := fun w _ => CanV h1 w
theorem ChkR (h1 : a.size ≤ 1000000) : Ret 150 #[.string a] (.int .i64 (chk a)) := fun w _ => check_any a w (by omega)
end
end Go.Proofs.YtonopbelbehheaaGreatDoor
