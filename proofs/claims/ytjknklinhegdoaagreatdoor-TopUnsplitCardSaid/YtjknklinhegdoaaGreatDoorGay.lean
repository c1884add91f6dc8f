/- A reckoner of closed runs: the table of the arithmetic: integers and fractions by their contracts. Condition: the tables of the start (Gl). -/
import Derived.Test.YtjknklinhegdoaaGreatDoorGai
import Derived.Test.YtjknklinhegdoaaGreatDoorEvc
import Derived.Laws.Externs
import Derived.Lib.Bytealg
set_option linter.unusedSectionVars false
set_option linter.unusedSimpArgs false
set_option linter.unusedVariables false
namespace Go.Proofs.YtjknklinhegdoaaGreatDoor
open Go.RowKit Go.Shelf Dec QQ Go.Proofs.Q.Ev
variable [Sym]
def sm (a:ByteArray):Bool:=Nat.ble a.size 1000
theorem eX {f:FuncId}{vs:List Value}{v:Value}(hcf:∀w:World,(callFunc f vs.toArray).run Tryz.prog w= .ok (.enter f vs.toArray) w)(h:Ret f vs.toArray v):∀w,Gl w→
 ((callFunc f vs.toArray).run Tryz.prog w= .ok (.enter f vs.toArray) w∧Calls Tryz.prog f vs.toArray w fun e w'=>e= .returned v∧Below w.heap.size w w')∨(callFunc f vs.toArray).run Tryz.prog w= .ok (.value v) w:=
 fun w hg=>.inl ⟨hcf w,h w hg⟩
theorem rJ {a:ByteArray}(h:sm a=true):a.size≤1000:=Nat.le_of_ble_eq_true h
theorem agq {α:Type}{b:Bool}{x y:Option α}{v:α}(h:(bif b then x else y)=some v):(b=true∧x=some v)∨(b=false∧y=some v):=by
 cases b
 ·exact .inr ⟨rfl,h⟩
 ·exact .inl ⟨rfl,h⟩
end Go.Proofs.YtjknklinhegdoaaGreatDoor
namespace Go.Proofs.YtjknklinhegdoaaGreatDoor
open Go Go.RowKit Go.Shelf Go.Proofs.Q.Ev
variable [Sym]
theorem akh (s:ByteArray)(c:Int)(w:World):(callFunc 298 #[.string s,.int .u8 c]).run Tryz.prog w= .ok (.value (.int .i64 (Lib.indexByte s.data.toList c.toNat.toUInt8))) w:=by
 rw[run_callFunc_extern (fn:=Tryz.f298) (by kernel_rfl) (by kernel_rfl) (by kernel_rfl) (by kernel_rfl) (e:=Extern.BytealgIndexByte.indexByte) (by kernel_rfl),Lib.run_indexByteString];rfl
def texts:Tbl:=fun f vs=>match vs with
 | [.string s,.int .u8 c]=>bif Nat.beq f 298 then some (.int .i64 (Lib.indexByte s.data.toList c.toNat.toUInt8))else none
 |_=>none
theorem alQ:acY Tryz.prog Gl texts:=by
 intro f vs v h w _;unfold texts at h;split at h
 ·rename_i s c
  obtain⟨hf,h⟩:=ae h;cases alg hf;cases h;exact .inr (akh s c w)
 ·cases h
end Go.Proofs.YtjknklinhegdoaaGreatDoor
