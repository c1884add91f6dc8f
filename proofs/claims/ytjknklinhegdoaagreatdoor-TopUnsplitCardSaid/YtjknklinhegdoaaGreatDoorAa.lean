/- Short names for facts of the library. No condition. -/
import Derived.Below
import Derived.Lib.Hide
open Go Go.RowKit
theorem alK{n:Nat}:n≤n:=Nat.le_refl _
theorem alL{w:World}{o:Obj}:Below w.heap.size w (w.alloc o):=(Below.refl _ _).alloc (Nat.le_refl _) _
abbrev ala:=@Lib.hid
abbrev alb:=@Result.andThen_ok
abbrev alc:=@Array.getElem?_eq_some_iff
abbrev ald:=@List.getElem?_eq_getElem
abbrev ale:=@Bool.and_eq_true
abbrev alf:=@World.size_alloc
abbrev alg:=@Nat.eq_of_beq_eq_true
abbrev alh:=@Sem.run_bind
abbrev ali:=@Nat.le_trans
abbrev alj:=@List.getElem?_eq_some_iff
abbrev alk:=@List.mem_of_getElem?
abbrev alm:=@List.mem_cons_self
abbrev aln:=@List.take_of_length_le
abbrev alo:=@List.mem_cons_of_mem
abbrev alp:=@Sem.run_pure
abbrev alq:=@List.mem_map
abbrev alr:=@List.length_take
abbrev als:=@List.getElem?_map
abbrev alu:=@Bool.false_eq_true
abbrev alv:=@Below.heap_setCell
abbrev alx:=@Nat.lt_of_lt_of_le
abbrev aly:=@List.length_cons
abbrev alz:=@List.all_eq_true
abbrev alA:=@Array.getElem?_toList
abbrev alB:=@List.getElem?_eq_none
abbrev alC:=@List.eq_nil_of_length_eq_zero
abbrev alD:=@World.cell?_setCell_other
abbrev alF:=@List.getElem?_take
abbrev alG:=@List.length_append
abbrev alH:=@decide_eq_false
abbrev alI:=@decide_eq_true
abbrev alJ:=@Below.refl
