/- TopSpunTogether: The anchor of the layers around lots. Conditions: bounded sizes; variables as laid. -/
import Derived.Test.YtbkhnggmcheelaaGreatDoorGal
import Derived.Test.YtbkhnggmcheelaaGreatDoorGav
set_option linter.unusedSectionVars false
set_option linter.unusedSimpArgs false
set_option linter.unusedVariables false
set_option maxRecDepth 1000000
namespace Go.Proofs.YtbkhnggmcheelaaGreatDoor
open Proofs.Tryz
open Go.RowKit Go.Shelf Dec QQ Go.Proofs.Q.Ev
theorem mixed:prog.follows .mixedOrders =true:=by kernel_rfl
abbrev lJ:Sym:=⟨fun _=>.s ⟨#[]⟩,fun _=>0,fun _=>0,fun _=>(#[],0,(0,0))⟩
section
variable [Sym]
def ag3:Tbl:=fun f vs=>match vs with
 | [.string a,.string b]=>bif sm a&&sm b then
     (bif Nat.beq f 14 then some (.string (ae (ah a+ah b)))else
      bif Nat.beq f 39 then some (.string (ae (ah a-ah b)))else
      bif Nat.beq f 79 then some (.string (ae (ah a*ah b)))else
      bif Nat.beq f 29 then some (.int .i64 (dW (ah a) (ah b)))else
      bif Nat.beq f 149 then some (.string (ae (Nat.gcd (ah a).natAbs (ah b).natAbs :Nat)))else
      bif Nat.beq f 150&& !(decide (ah b=0))then some (.tuple #[.string (ae ((ah a).fdiv (ah b))),.string (ae ((ah a).fmod (ah b))),.int .i64 0])else none)else none
 | [.string a]=>bif sm a then
     (bif Nat.beq f 148 then some (.string (ae (-(ah a))))else
      bif Nat.beq f 180 then some (.string (ae (ah a)))else
      bif Nat.beq f 121 then some (.int .i64 (chk a))else none)else none
 | [.int .i64 n]=>bif Nat.beq f 194&&(decide (-9223372036854775808<=n)&&decide (n<=9223372036854775807))then some (.string (ae n))else none
 | [.agg ⟨[.string a,.string b]⟩,.agg ⟨[.string c,.string d]⟩]=>bif (sm a&&sm b)&&(sm c&&sm d)then
     (bif Nat.beq f 66 then some (FR (bV a b-bV c d))else
      bif Nat.beq f 87 then some (FR (bV a b*bV c d))else none)else none
 | [.agg ⟨[.string a,.string b]⟩]=>bif (sm a&&sm b)&&Nat.beq f 153 then some (.int .i64 (vI a b))else none
 |_=>none
theorem ag2 (hm:prog.follows .mixedOrders =true):adO prog Gl ag3:=by
 intro f vs v h;have en:∀(g:FuncId) (args:Array Value),(mkFI prog g).isSome =true->∀w:World,(callFunc g args).run prog w= .ok (.enter g args) w:=fun g args hg w=>alU hm hg args w
 unfold ag3 at h;split at h
 ·rename_i a b
  obtain⟨hs,h⟩:=ag h;rw[amC]at hs;have h1:Vs a (ah a):=.arg (by have:=tX hs.1;omega);have h2:Vs b (ah b):=.arg (by have:=tX hs.2;omega);rcases ahr h with ⟨hf,h⟩|⟨_,h⟩
  ·cases amE hf;cases h
   exact fK (en _ _ (by decide+kernel)) (abq h1 h2)
  rcases ahr h with ⟨hf,h⟩|⟨_,h⟩
  ·cases amE hf;cases h
   exact fK (en _ _ (by decide+kernel)) (ahs h1 h2)
  rcases ahr h with ⟨hf,h⟩|⟨_,h⟩
  ·cases amE hf;cases h
   exact fK (en _ _ (by decide+kernel)) (ajN h1 h2)
  rcases ahr h with ⟨hf,h⟩|⟨_,h⟩
  ·cases amE hf;cases h
   exact fK (en _ _ (by decide+kernel)) (aab h1 h2)
  rcases ahr h with ⟨hf,h⟩|⟨_,h⟩
  ·cases amE hf;cases h
   exact fK (en _ _ (by decide+kernel)) (GcdR h1 h2)
  obtain⟨hf,h⟩:=ag h;rw[amC]at hf;have hf1:=amE hf.1;have hy:ah b≠0:=by simpa using hf.2
  rw[Option.some.injEq]at h;rw[<-h,hf1];exact fK (en _ _ (by decide+kernel)) (ams h1 h2 hy)
 ·rename_i a
  obtain⟨hs,h⟩:=ag h;have h1:Vs a (ah a):=.arg (by have:=tX hs;omega);rcases ahr h with ⟨hf,h⟩|⟨_,h⟩
  ·cases amE hf;cases h
   exact fK (en _ _ (by decide+kernel)) (NegR h1)
  rcases ahr h with ⟨hf,h⟩|⟨_,h⟩
  ·cases amE hf;cases h
   exact fK (en _ _ (by decide+kernel)) (CanR h1)
  rcases ahr h with ⟨hf,h⟩|⟨_,h⟩
  ·cases amE hf;cases h
   exact fK (en _ _ (by decide+kernel)) (amv (by have:=tX hs;omega))
  cases h
 ·rename_i n
  obtain⟨hs,h⟩:=ag h;cases h;simp only[amC,decide_eq_true_eq]at hs;cases amE hs.1;exact fK (en _ _ (by decide+kernel)) (OfR hs.2.1 hs.2.2)
 ·rename_i a b c d
  obtain⟨hs,h⟩:=ag h;simp only[amC]at hs;have h1:Vq a b (bV a b):=.arg (by have:=tX hs.1.1;omega) (by have:=tX hs.1.2;omega);have h2:Vq c d (bV c d):=.arg (by have:=tX hs.2.1;omega) (by have:=tX hs.2.2;omega);rcases ahr h with ⟨hf,h⟩|⟨_,h⟩
  ·cases amE hf;cases h
   exact fK (en _ _ (by decide+kernel)) (SubF h1 h2)
  rcases ahr h with ⟨hf,h⟩|⟨_,h⟩
  ·cases amE hf;cases h
   exact fK (en _ _ (by decide+kernel)) (amn h1 h2)
  cases h
 ·rename_i a b
  obtain⟨hs,h⟩:=ag h;cases h;simp only[amC]at hs;cases amE hs.2;exact fK (en _ _ (by decide+kernel)) (ChkF (by have:=tX hs.1.1;omega) (by have:=tX hs.1.2;omega))
 ·cases h
end
noncomputable def akU:bZ:=akW (ad8 (akV ag3 texts)) (ajD (aad prog) ak4 1000 64 [111])
def isT:Res->Bool
 |some (.lit (.bool true),_)=>true
 |_=>false
theorem isT_eq {x:Res}(h:isT x=true):∃H' hi,x=some (.lit (.bool true),H',hi):=by
 unfold isT at h;split at h
 ·exact⟨_,_,rfl⟩
 ·cases h
theorem run48:isT (xW (aad prog) akU 1000 60 (.func 7 []) [] .leaf 1000)=true:=by decide+kernel
theorem aif: @bU lJ (aad prog) Gl akU:=
 @aih lJ _ _ _ _ (@ad7 lJ _ _ _ (@aig lJ _ _ _ _ (@ag2 lJ mixed) (@ahv lJ))) (@acu lJ _ _ _ _ (@oQ lJ _ mixed) (@abR lJ _ _) _ _)
theorem top48R:Ret 7 #[] (.bool true):=by
 intro w hg;obtain⟨H',hi,e⟩:=isT_eq run48;exact @abb lJ (aad prog) Gl akU (@oQ lJ _ mixed) aif 7 [] (.bool true) 1000 60 1000 hi H' (by decide+kernel) e w (fun w' hb=>hg.below hb)
end Go.Proofs.YtbkhnggmcheelaaGreatDoor
