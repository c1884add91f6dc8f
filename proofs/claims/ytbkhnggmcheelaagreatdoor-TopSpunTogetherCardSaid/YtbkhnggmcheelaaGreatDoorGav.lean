/- TopSpunTogether: A reckoner of closed runs. Conditions: bounded sizes; variables as laid. -/
import Derived.Test.YtbkhnggmcheelaaGreatDoorGah
import Derived.Test.YtbkhnggmcheelaaGreatDoorEvc
set_option linter.unusedSectionVars false
set_option linter.unusedSimpArgs false
set_option linter.unusedVariables false
namespace Go.Proofs.YtbkhnggmcheelaaGreatDoor
open Proofs.Tryz
section
open Go.RowKit Go.Shelf Dec QQ Go.Proofs.Q.Ev
variable [Sym]
def sm (a:BA):Bool:=Nat.ble a.size 1000
theorem fK {f:FuncId}{vs:List Value}{v:Value}(hcf:∀w:World,(callFunc f vs.toArray).run prog w= .ok (.enter f vs.toArray) w)(h:Ret f vs.toArray v):∀w,Gl w->
 ((callFunc f vs.toArray).run prog w= .ok (.enter f vs.toArray) w/\Calls prog f vs.toArray w fun e w'=>e= .returned v/\Below w.heap.size w w')\/(callFunc f vs.toArray).run prog w= .ok (.value v) w:=
 fun w hg=>.inl ⟨hcf w,h w hg⟩
theorem tX {a:BA}(h:sm a=true):a.size<=1000:=Nat.le_of_ble_eq_true h
theorem ahr {α:Type}{b:Bool}{x y:Option α}{v:α}(h:(bif b then x else y)=some v):(b=true/\x=some v)\/(b=false/\y=some v):=by
 cases b
 ·exact .inr ⟨rfl,h⟩
 ·exact .inl ⟨rfl,h⟩
end
section
open Go Go.RowKit Go.Shelf Go.Proofs.Q.Ev
variable [Sym]
theorem aly (s:BA)(c:Int)(w:World):(callFunc 291 #[.string s,.int .u8 c]).run prog w= .ok (.value (.int .i64 (Lib.indexByte s.data.toList c.toNat.toUInt8))) w:=by
 rw[run_callFunc_extern (fn:=f291) (by kernel_rfl) (by kernel_rfl) (by kernel_rfl) (by kernel_rfl) (e:=Extern.BytealgIndexByte.indexByte) (by kernel_rfl),Lib.run_indexByteString];rfl
def texts:Tbl:=fun f vs=>match vs with
 | [.string s,.int .u8 c]=>bif Nat.beq f 291 then some (.int .i64 (Lib.indexByte s.data.toList c.toNat.toUInt8))else none
 |_=>none
theorem ahv:adO prog Gl texts:=by
 intro f vs v h w _;unfold texts at h;split at h
 ·rename_i s c
  obtain⟨hf,h⟩:=ag h;cases amE hf;cases h;exact .inr (aly s c w)
 ·cases h
end
end Go.Proofs.YtbkhnggmcheelaaGreatDoor
