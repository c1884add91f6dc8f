import Derived.Test.YtahpbnmbphobgaaGreatDoorEvT
import Derived.Laws.Externs
import Derived.Lib.Bytealg
namespace Go.Proofs.YtahpbnmbphobgaaGreatDoor
set_option linter.unusedSectionVars false
set_option linter.unusedVariables false
set_option linter.unusedSimpArgs false
open Go Go.RowKit Go.Shelf Go.Proofs.Q.Ev
variable [Sym]
theorem ibs_run (s : ByteArray) (c : Int) (w : World) : (callFunc 286 #[.string s, .int .u8 c]).run Tryz.prog w = .ok (.value (.int .i64 (Lib.indexByte s.data.toList c.toNat.toUInt8))) w := by
  rw [run_callFunc_extern (fn := Tryz.f286) (by kernel_rfl) (by kernel_rfl) (by kernel_rfl) (by kernel_rfl) (e := Extern.BytealgIndexByte.indexByte) (by kernel_rfl), Lib.run_indexByteString]
  rfl
def texts : Tbl := fun f vs => match vs with
  | [.string s, .int .u8 c] => bif Nat.beq f 286 then some (.int .i64 (Lib.indexByte s.data.toList c.toNat.toUInt8)) else none
  | _ => none
theorem texts_ok : TblOK Tryz.prog Gl texts := by
  intro f vs v h w _
  unfold texts at h
  split at h
  · rename_i s c
    obtain ⟨hf, h⟩ := bif_some h
    cases Nat.eq_of_beq_eq_true hf
    cases h
    exact .inr (ibs_run s c w)
  · cases h
end Go.Proofs.YtahpbnmbphobgaaGreatDoor
