/- The anchor of the layers around lots: it answers true. Condition: the library's table and error lie as the program's text lays them. -/
import Derived.Test.YtjknklinhegdoaaGreatDoorGan
import Derived.Test.YtjknklinhegdoaaGreatDoorGay
set_option linter.unusedSectionVars false
set_option linter.unusedSimpArgs false
set_option linter.unusedVariables false
set_option maxRecDepth 1000000
namespace Go.Proofs.YtjknklinhegdoaaGreatDoor
open Go.RowKit Go.Shelf Dec QQ Go.Proofs.Q.Ev
theorem mixed:Tryz.prog.follows .mixedOrders =true:=by kernel_rfl
abbrev kJ:Sym:=⟨fun _=>.s ⟨#[]⟩,fun _=>0,fun _=>0,fun _=>(#[],0,(0,0))⟩
section
variable [Sym]
def af0:Tbl:=fun f vs=>match vs with
 | [.string a,.string b]=>bif sm a&&sm b then
     (bif Nat.beq f 20 then some (.string (ag (aj a+aj b)))else
      bif Nat.beq f 47 then some (.string (ag (aj a-aj b)))else
      bif Nat.beq f 88 then some (.string (ag (aj a*aj b)))else
      bif Nat.beq f 38 then some (.int .i64 (fA (aj a) (aj b)))else
      bif Nat.beq f 158 then some (.string (ag (Nat.gcd (aj a).natAbs (aj b).natAbs :Nat)))else
      bif Nat.beq f 159&& !(decide (aj b=0))then some (.tuple #[.string (ag ((aj a).fdiv (aj b))),.string (ag ((aj a).fmod (aj b))),.int .i64 0])else none)else none
 | [.string a]=>bif sm a then
     (bif Nat.beq f 157 then some (.string (ag (-(aj a))))else
      bif Nat.beq f 187 then some (.string (ag (aj a)))else
      bif Nat.beq f 128 then some (.int .i64 (chk a))else none)else none
 | [.int .i64 n]=>bif Nat.beq f 203&&(decide (-9223372036854775808≤n)&&decide (n≤9223372036854775807))then some (.string (ag n))else none
 | [.agg ⟨[.string a,.string b]⟩,.agg ⟨[.string c,.string d]⟩]=>bif (sm a&&sm b)&&(sm c&&sm d)then
     (bif Nat.beq f 72 then some (FR (cK a b-cK c d))else
      bif Nat.beq f 28 then some (FR (cK a b*cK c d))else none)else none
 | [.agg ⟨[.string a,.string b]⟩]=>bif (sm a&&sm b)&&Nat.beq f 160 then some (.int .i64 (aak a b))else none
 |_=>none
theorem alP (hm:Tryz.prog.follows .mixedOrders =true):acY Tryz.prog Gl af0:=by
 intro f vs v h;have en:∀(g:FuncId) (args:Array Value),(mkFI Tryz.prog g).isSome =true→∀w:World,(callFunc g args).run Tryz.prog w= .ok (.enter g args) w:=fun g args hg w=>aky hm hg args w
 unfold af0 at h;split at h
 ·rename_i a b
  obtain⟨hs,h⟩:=ae h;rw[ale]at hs;have h1:Vs a (aj a):=.arg (by have:=rJ hs.1;omega);have h2:Vs b (aj b):=.arg (by have:=rJ hs.2;omega);rcases agq h with ⟨hf,h⟩|⟨_,h⟩
  ·cases alg hf;cases h
   exact eX (en _ _ (by decide+kernel)) (agr h1 h2)
  rcases agq h with ⟨hf,h⟩|⟨_,h⟩
  ·cases alg hf;cases h
   exact eX (en _ _ (by decide+kernel)) (SubR h1 h2)
  rcases agq h with ⟨hf,h⟩|⟨_,h⟩
  ·cases alg hf;cases h
   exact eX (en _ _ (by decide+kernel)) (aiG h1 h2)
  rcases agq h with ⟨hf,h⟩|⟨_,h⟩
  ·cases alg hf;cases h
   exact eX (en _ _ (by decide+kernel)) (ac7 h1 h2)
  rcases agq h with ⟨hf,h⟩|⟨_,h⟩
  ·cases alg hf;cases h
   exact eX (en _ _ (by decide+kernel)) (GcdR h1 h2)
  obtain⟨hf,h⟩:=ae h;rw[ale]at hf;have hf1:=alg hf.1;have hy:aj b≠0:=by simpa using hf.2
  rw[Option.some.injEq]at h;rw[←h,hf1];exact eX (en _ _ (by decide+kernel)) (ak6 h1 h2 hy)
 ·rename_i a
  obtain⟨hs,h⟩:=ae h;have h1:Vs a (aj a):=.arg (by have:=rJ hs;omega);rcases agq h with ⟨hf,h⟩|⟨_,h⟩
  ·cases alg hf;cases h
   exact eX (en _ _ (by decide+kernel)) (NegR h1)
  rcases agq h with ⟨hf,h⟩|⟨_,h⟩
  ·cases alg hf;cases h
   exact eX (en _ _ (by decide+kernel)) (CanR h1)
  rcases agq h with ⟨hf,h⟩|⟨_,h⟩
  ·cases alg hf;cases h
   exact eX (en _ _ (by decide+kernel)) (ChkR (by have:=rJ hs;omega))
  cases h
 ·rename_i n
  obtain⟨hs,h⟩:=ae h;cases h;simp only[ale,decide_eq_true_eq]at hs;cases alg hs.1;exact eX (en _ _ (by decide+kernel)) (OfR hs.2.1 hs.2.2)
 ·rename_i a b c d
  obtain⟨hs,h⟩:=ae h;simp only[ale]at hs;have h1:Vq a b (cK a b):=.arg (by have:=rJ hs.1.1;omega) (by have:=rJ hs.1.2;omega);have h2:Vq c d (cK c d):=.arg (by have:=rJ hs.2.1;omega) (by have:=rJ hs.2.2;omega);rcases agq h with ⟨hf,h⟩|⟨_,h⟩
  ·cases alg hf;cases h
   exact eX (en _ _ (by decide+kernel)) (SubF h1 h2)
  rcases agq h with ⟨hf,h⟩|⟨_,h⟩
  ·cases alg hf;cases h
   exact eX (en _ _ (by decide+kernel)) (MulF h1 h2)
  cases h
 ·rename_i a b
  obtain⟨hs,h⟩:=ae h;cases h;simp only[ale]at hs;cases alg hs.2;exact eX (en _ _ (by decide+kernel)) (ChkF (by have:=rJ hs.1.1;omega) (by have:=rJ hs.1.2;omega))
 ·cases h
end
noncomputable def ajI:bO:=ajK (adf (ajJ af0 texts)) (aiu (yQ Tryz.prog) ajS 1000 64 [118])
def isT:Res→Bool
 |some (.lit (.bool true),_)=>true
 |_=>false
theorem isT_eq {x:Res}(h:isT x=true):∃H' hi,x=some (.lit (.bool true),H',hi):=by
 unfold isT at h;split at h
 ·exact⟨_,_,rfl⟩
 ·cases h
theorem run48:isT (wD (yQ Tryz.prog) ajI 1000 60 (.func 7 []) [] .leaf 1000)=true:=by decide+kernel
theorem ahc: @bM kJ (yQ Tryz.prog) Gl ajI:=
 @alT kJ _ _ _ _ (@alO kJ _ _ _ (@alR kJ _ _ _ _ (@alP kJ mixed) (@alQ kJ))) (@alN kJ _ _ _ _ (@aae kJ _ mixed) (@alM kJ _ _) _ _)
theorem top48R:Ret 7 #[] (.bool true):=by
 intro w hg;obtain⟨H',hi,e⟩:=isT_eq run48;exact @akP kJ (yQ Tryz.prog) Gl ajI (@aae kJ _ mixed) ahc 7 [] (.bool true) 1000 60 1000 hi H' (by decide+kernel) e w (fun w' hb=>hg.below hb)
end Go.Proofs.YtjknklinhegdoaaGreatDoor
