/- A block that a region lays. No condition. -/
import Derived.Test.YtpipkeplhkccoaaGreatDoorFa
namespace Go.Proofs.YtpipkeplhkccoaaGreatDoor
open Go.RowKit Go.Shelf Dec QQ

/-- a block that a region has laid over the world W3 -/
structure Pk (W3 W : World) (bz : Nat) (cs : Array Value) : Prop where
  low : Below W3.heap.size W3 W
  z : Bx W bz cs
  ge : W3.heap.size ≤ bz
theorem pk_on {W3 W W' : World} {bz : Nat} {cs : Array Value} (h : Pk W3 W bz cs) (hb : Below W.heap.size W W') : Pk W3 W' bz cs := ⟨h.low.trans (hb.mono h.low.size), h.z.on hb, h.ge⟩
theorem pk_new {W3 W : World} (h : Below W3.heap.size W3 W) : Pk W3 (W.alloc (.cells #[.string ⟨#[]⟩, .string ⟨#[]⟩] 36)) W.heap.size #[.string ⟨#[]⟩, .string ⟨#[]⟩] := ⟨h.alloc h.size _, Bx.new _ _ _, h.size⟩
theorem pk_drew {W3 W : World} {bz : Nat} {cs : Array Value} (h : Pk W3 W bz cs) : Pk W3 W.drew bz cs := ⟨h.low.drew, h.z.drew, h.ge⟩
theorem pk_alloc {W3 W : World} {n d : ByteArray} (h : Below W3.heap.size W3 W) : Pk W3 (W.alloc (.cells #[.string n, .string d] 36)) W.heap.size #[.string n, .string d] := ⟨h.alloc h.size _, Bx.new _ _ _, h.size⟩
theorem pk_set {W3 W : World} {bz : Nat} (h : Pk W3 W bz #[.string ⟨#[]⟩, .string ⟨#[]⟩]) (n d : ByteArray) : Pk W3 ((W.setCell ⟨bz, 0, none⟩ (.string n)).setCell ⟨bz, 1, none⟩ (.string d)) bz #[.string n, .string d] := ⟨(h.low.setCell (p := ⟨bz, 0, none⟩) h.ge _).setCell (p := ⟨bz, 1, none⟩) h.ge _, (h.z.set 0 (.string n)).set 1 (.string d), h.ge⟩
end Go.Proofs.YtpipkeplhkccoaaGreatDoor
