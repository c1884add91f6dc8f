/- Dates: the contracts of the package date's Leap, length, begin, Of, Parts and AddMonths. Conditions: days and years of the calendar. Dates: the contracts of the package date's Leap, length, begin, Of, Parts and AddMonths. Conditions: days and years of the calendar. Dates: the contracts of the package date's Leap, length, begin, Of, Parts and AddMonths. Conditions: days and years of the calendar. Dates: the contracts of the package date's Leap, length, begin, Of, Parts and AddMonths. Conditions: days and years of the calendar. Dates: the contracts of Parts outside the calendar and of AddMonths. Conditions: none on the machine integers. -/
import Derived.Test.YtahpbnmbphobgaaGreatDoorDd
import Derived.Test.YtahpbnmbphobgaaGreatDoorFa
namespace Go.Proofs.YtahpbnmbphobgaaGreatDoor
open Go.RowKit Go.Shelf Dec

theorem results_tmp4 {fn : Func} {t u v x : Tmp} (h : fn.results = #[.tmp t, .tmp u, .tmp v, .tmp x]) (tmps : Array Value) (P : Program) (w : World) :
    (results fn tmps).run P w = .ok (.tuple #[tmps.getD t undef, tmps.getD u undef, tmps.getD v undef, tmps.getD x undef]) w := by
  simp [results, h]


end Go.Proofs.YtahpbnmbphobgaaGreatDoor
namespace Go.Proofs.YtahpbnmbphobgaaGreatDoor
open Go.RowKit Go.Shelf Dec


end Go.Proofs.YtahpbnmbphobgaaGreatDoor
namespace Go.Proofs.YtahpbnmbphobgaaGreatDoor
open Go.RowKit Go.Shelf Dec



end Go.Proofs.YtahpbnmbphobgaaGreatDoor
namespace Go.Proofs.YtahpbnmbphobgaaGreatDoor
open Go.RowKit Go.Shelf Dec


end Go.Proofs.YtahpbnmbphobgaaGreatDoor
namespace Go.Proofs.YtahpbnmbphobgaaGreatDoor
open Go.RowKit Go.Shelf Dec

/-- months from the year 0 on, of a day shifted -/
def monthsN (n : Nat) (k : Int) : Nat := (12 * (yN n : Int) + (mN n : Int) - 1 + k).toNat
/-- the number of a day shifted by months -/
def shiftN (n : Nat) (k : Int) : Nat := beginN (monthsN n k / 12) + cumN (monthsN n k / 12) (monthsN n k % 12 + 1) + min (dN n) (lenN (monthsN n k / 12) (monthsN n k % 12 + 1)) - 1
def shiftOk (n : Nat) (k : Int) : Bool := decide (1900 ≤ monthsN n k / 12) && decide (monthsN n k / 12 ≤ 2199)
/-- what AddMonths returns -/
def addR (D k : Int) : Int × Int :=
  if notDay D = true then (0, 13) else if k < -4800 ∨ 4800 < k then (0, 2) else if shiftOk (dayNum D) k = true then ((shiftN (dayNum D) k : Int) - 25567, 0) else (0, 13)
theorem shift_date {n : Nat} {k : Int} (h : n < 109573) (ho : shiftOk n k = true) : IsDate (shiftN n k) (monthsN n k / 12) (monthsN n k % 12 + 1) (min (dN n) (lenN (monthsN n k / 12) (monthsN n k % 12 + 1))) := by
  have hd := date_spec h
  unfold shiftOk at ho
  simp only [Bool.and_eq_true, decide_eq_true_eq] at ho
  have hl := lenN_cases (y := monthsN n k / 12) (m := monthsN n k % 12 + 1) (by omega) (by omega)
  have h0 := hd.d0
  exact ⟨ho.1, ho.2, by omega, by omega, by omega, by omega, by unfold shiftN; omega⟩
end Go.Proofs.YtahpbnmbphobgaaGreatDoor
