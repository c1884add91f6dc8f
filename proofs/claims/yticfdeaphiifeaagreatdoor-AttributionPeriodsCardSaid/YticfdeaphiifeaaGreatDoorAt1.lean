/- Attribution: looking through slices of fractions, sectors and parts; canonical fractions. Conditions: what the function returns. -/
import Derived.Test.YticfdeaphiifeaaGreatDoorAs
import Derived.Test.YticfdeaphiifeaaGreatDoorGr
set_option maxHeartbeats 4000000
set_option maxRecDepth 100000
namespace Go.Proofs.YticfdeaphiifeaaGreatDoor
open Go.RowKit Go.Shelf Dec QQ
structure FrS where
 n : ByteArray
 d : ByteArray
def fcells (s : FrS) : List Value := [.string s.n, .string s.d]
def frcV (s : FrS) : Value := .agg #[.string s.n, .string s.d]
def secV (s : SecS) : Value := .agg #[.string s.nm, .string s.wn, .string s.wd, .string s.rn, .string s.rd, .string s.vn, .string s.vd, .string s.bn, .string s.bd]
def prtV (s : PrtS) : Value := .agg #[.string s.nm, .string s.an, .string s.ad, .string s.sn, .string s.sd, .string s.jn, .string s.jd]
theorem fcells_len (s : FrS) : (fcells s).length = 2 := rfl
theorem scells_len (s : SecS) : (scells s).length = 9 := rfl
theorem pcells_len (s : PrtS) : (pcells s).length = 7 := rfl
theorem RetI.keep {I : World → Prop} {f : FuncId} {args : Array Value} {V : Value} {w0 w : World} (h : RetI I f args V) (hs : St w0 w) (hI : ∀ u : Kept w, I u.W) {u : Kept w} : Calls Tryz.prog f args u.W fun e w'' => e = .returned V ∧ ∃ u' : Kept w, w'' = u'.W :=
 (h u.W (hs.gl.below u.low) (hI u)).mono fun _ w' ⟨he, hb⟩ => ⟨he, ⟨⟨w', u.low.trans (hb.mono u.low.size)⟩, rfl⟩⟩
theorem stays_true : Stays (fun _ => True) := fun _ _ _ _ => trivial
theorem stays_row (A : Option Addr) (vs : List Value) : Stays (fun w => Row w A vs) := fun _ _ h hb => h.on hb
theorem stays_box (b : Nat) (cs : Array Value) : Stays (fun w => Bx w b cs) := fun _ _ h hb => h.on hb
theorem NameR {s : ByteArray} (h : s.size ≤ 4611686018427387904) : Ret 87 #[.string s] (.bool (nameOk s)) := fun w _ => name_any s h w
theorem rNameR {s : ByteArray} (h : s.size ≤ 4611686018427387904) : Ret 97 #[.string s] (.bool (nameOk s)) := fun w _ => rname_any s h w
theorem indexF {A : Option Addr} {n c : Nat} {l : List FrS} {f : FuncId} {cap : Array Value} {p : FrS → Bool} {I : World → Prop} (hI : Stays I) (hn : l.length = n) (hm : n ≤ 4611686018427387904) (hcf : ∀ (args : Array Value) (u : World), (callFunc f args).run Tryz.prog u = .ok (.enter f args) u)
  (KF : Hid (∀ s ∈ l, RetI I f (#[frcV s] ++ cap) (.bool (p s)))) :
  RetI (fun w => Row w A (flatG fcells l) ∧ I w) 143 #[.slice A n c, .func (.func f) #[] cap] (.int .i64 (idxG p l)) := by
 intro w hg hi
 have hs := St.refl hg
 have HN := Lib.hid hn
 have Hi := Lib.hid hi
 have HI := Lib.hid hI
 clear hn hi hI
 go_enter Tryz.func143, Tryz.ntmps143
 go_wp2_with fail
 go_loopw [8] (fun s wr => ∃ k : Nat, k ≤ n ∧ s = .int .i64 (k : Int) ∧ St w wr ∧ Hid (Row wr A (flatG fcells l) ∧ I wr) ∧ Hid (∀ i, i < k → ∀ t, l[i]? = some t → p t = false)) (fun s _ => (n - intOf s).toNat)
 case atStart => exact ⟨0, by omega, rfl, hs, Hi, fun i h => by omega⟩
 case round =>
  obtain ⟨k, hk, rfl, hs, H, HP⟩ := hrel
  by_cases hkn : k = n
  ·subst hkn
   have q : decide ((k : Int) < (k : Int)) = false := decide_eq_false (by omega)
   have HE := Lib.hid (idxG_none (p := p) (l := l) (fun i hi t ht => HP.out i (by rw [HN.out] at hi; exact hi) t ht))
   clear HP
   go_wp2_with fail
   go_ret
   exact ⟨by rw [HE.out]; rfl, hs.2⟩
  ·have hkl : k < n := by omega
   have q : decide ((k : Int) < (n : Int)) = true := decide_eq_true (by omega)
   have qn : decide (k < n) = true := decide_eq_true hkl
   obtain ⟨d, hd⟩ : ∃ d, l[k]? = some d := ⟨l[k]'(by rw [HN.out]; exact hkl), by simp⟩
   obtain ⟨b, o, hA, hb, hcells⟩ := row_at (cs := fcells) (m := 2) fcells_len (by decide) H.out.1 hd
   subst hA
   have KK := KF.out d (List.mem_of_getElem? hd)
   have HD := Lib.hid hd
   clear hd hkn
   obtain ⟨pv, hpv⟩ : ∃ pv, p d = pv := ⟨_, rfl⟩
   rw [hpv] at KK
   have HPV := Lib.hid hpv
   clear hpv
   obtain ⟨f0, f1⟩ := d
   have x0 : wr.cell? ⟨b, o + k * 2, none⟩ = some (.string f0) := hcells 0 _ rfl
   have x1 : wr.cell? ⟨b, o + k * 2 + 1, none⟩ = some (.string f1) := hcells 1 _ rfl
   have HC := Lib.hid hcells
   clear hcells
   dsimp only [frcV] at KK
   cases pv with
   | true =>
    have HE := Lib.hid (idxG_at HD.out HPV.out HP.out)
    go_wp2_with fail
    refine KK.step hs H.out.2 ?_
    intro w2 hs hb
    go_wp2_with fail
    go_ret
    exact ⟨by rw [HE.out]; rfl, hs.2⟩
   | false =>
    go_wp2_with fail
    refine KK.step hs H.out.2 ?_
    intro w2 hs hb
    have H2 : Hid (Row w2 (some ⟨b, o, none⟩) (flatG fcells l) ∧ I w2) := ⟨H.out.1.on hb, HI.out _ _ H.out.2 hb⟩
    go_wp2_with fail
    go_roundw
    case rel =>
     refine ⟨k + 1, by omega, by go_num, hs, H2, ?_⟩
     intro i hi t ht
     by_cases e : i = k
     ·subst e
      rw [HD.out] at ht
      cases ht
      exact HPV.out
     ·exact HP.out i (by omega) t ht
    case measure => simp [intOf]; omega
theorem containsF {A : Option Addr} {n c : Nat} {l : List FrS} {f : FuncId} {cap : Array Value} {p : FrS → Bool} {I : World → Prop} (hI : Stays I) (hn : l.length = n) (hm : n ≤ 4611686018427387904) (hcf : ∀ (args : Array Value) (u : World), (callFunc f args).run Tryz.prog u = .ok (.enter f args) u)
  (KF : Hid (∀ s ∈ l, RetI I f (#[frcV s] ++ cap) (.bool (p s)))) :
  RetI (fun w => Row w A (flatG fcells l) ∧ I w) 85 #[.slice A n c, .func (.func f) #[] cap] (.bool (l.any p)) := by
 intro w hg hi
 have hs := St.refl hg
 have K := indexF (A := A) (c := c) hI hn hm hcf KF
 have e := idxG_any p l
 generalize idxG p l = r at *
 generalize l.any p = v at *
 have Hi := Lib.hid hi
 clear hn hi hI
 go_enter Tryz.func85, Tryz.ntmps85
 go_wp2_with fail
 refine K.step hs Hi.out ?_
 intro w1 hs _
 go_wp2_with fail
 go_ret
 exact ⟨rfl, hs.2⟩
theorem indexS {A : Option Addr} {n c : Nat} {l : List SecS} {f : FuncId} {cap : Array Value} {p : SecS → Bool} {I : World → Prop} (hI : Stays I) (hn : l.length = n) (hm : n ≤ 4611686018427387904) (hcf : ∀ (args : Array Value) (u : World), (callFunc f args).run Tryz.prog u = .ok (.enter f args) u)
  (KF : Hid (∀ s ∈ l, RetI I f (#[secV s] ++ cap) (.bool (p s)))) :
  RetI (fun w => Row w A (flatG scells l) ∧ I w) 84 #[.slice A n c, .func (.func f) #[] cap] (.int .i64 (idxG p l)) := by
 intro w hg hi
 have hs := St.refl hg
 have HN := Lib.hid hn
 have Hi := Lib.hid hi
 have HI := Lib.hid hI
 clear hn hi hI
 go_enter Tryz.func84, Tryz.ntmps84
 go_wp2_with fail
 go_loopw [8] (fun s wr => ∃ k : Nat, k ≤ n ∧ s = .int .i64 (k : Int) ∧ St w wr ∧ Hid (Row wr A (flatG scells l) ∧ I wr) ∧ Hid (∀ i, i < k → ∀ t, l[i]? = some t → p t = false)) (fun s _ => (n - intOf s).toNat)
 case atStart => exact ⟨0, by omega, rfl, hs, Hi, fun i h => by omega⟩
 case round =>
  obtain ⟨k, hk, rfl, hs, H, HP⟩ := hrel
  by_cases hkn : k = n
  ·subst hkn
   have q : decide ((k : Int) < (k : Int)) = false := decide_eq_false (by omega)
   have HE := Lib.hid (idxG_none (p := p) (l := l) (fun i hi t ht => HP.out i (by rw [HN.out] at hi; exact hi) t ht))
   clear HP
   go_wp2_with fail
   go_ret
   exact ⟨by rw [HE.out]; rfl, hs.2⟩
  ·have hkl : k < n := by omega
   have q : decide ((k : Int) < (n : Int)) = true := decide_eq_true (by omega)
   have qn : decide (k < n) = true := decide_eq_true hkl
   obtain ⟨d, hd⟩ : ∃ d, l[k]? = some d := ⟨l[k]'(by rw [HN.out]; exact hkl), by simp⟩
   obtain ⟨b, o, hA, hb, hcells⟩ := row_at (cs := scells) (m := 9) scells_len (by decide) H.out.1 hd
   subst hA
   have KK := KF.out d (List.mem_of_getElem? hd)
   have HD := Lib.hid hd
   clear hd hkn
   obtain ⟨pv, hpv⟩ : ∃ pv, p d = pv := ⟨_, rfl⟩
   rw [hpv] at KK
   have HPV := Lib.hid hpv
   clear hpv
   obtain ⟨f0, f1, f2, f3, f4, f5, f6, f7, f8⟩ := d
   have x0 : wr.cell? ⟨b, o + k * 9, none⟩ = some (.string f0) := hcells 0 _ rfl
   have x1 : wr.cell? ⟨b, o + k * 9 + 1, none⟩ = some (.string f1) := hcells 1 _ rfl
   have x2 : wr.cell? ⟨b, o + k * 9 + 2, none⟩ = some (.string f2) := hcells 2 _ rfl
   have x3 : wr.cell? ⟨b, o + k * 9 + 3, none⟩ = some (.string f3) := hcells 3 _ rfl
   have x4 : wr.cell? ⟨b, o + k * 9 + 4, none⟩ = some (.string f4) := hcells 4 _ rfl
   have x5 : wr.cell? ⟨b, o + k * 9 + 5, none⟩ = some (.string f5) := hcells 5 _ rfl
   have x6 : wr.cell? ⟨b, o + k * 9 + 6, none⟩ = some (.string f6) := hcells 6 _ rfl
   have x7 : wr.cell? ⟨b, o + k * 9 + 7, none⟩ = some (.string f7) := hcells 7 _ rfl
   have x8 : wr.cell? ⟨b, o + k * 9 + 8, none⟩ = some (.string f8) := hcells 8 _ rfl
   have HC := Lib.hid hcells
   clear hcells
   dsimp only [secV] at KK
   cases pv with
   | true =>
    have HE := Lib.hid (idxG_at HD.out HPV.out HP.out)
    go_wp2_with fail
    refine KK.step hs H.out.2 ?_
    intro w2 hs hb
    go_wp2_with fail
    go_ret
    exact ⟨by rw [HE.out]; rfl, hs.2⟩
   | false =>
    go_wp2_with fail
    refine KK.step hs H.out.2 ?_
    intro w2 hs hb
    have H2 : Hid (Row w2 (some ⟨b, o, none⟩) (flatG scells l) ∧ I w2) := ⟨H.out.1.on hb, HI.out _ _ H.out.2 hb⟩
    go_wp2_with fail
    go_roundw
    case rel =>
     refine ⟨k + 1, by omega, by go_num, hs, H2, ?_⟩
     intro i hi t ht
     by_cases e : i = k
     ·subst e
      rw [HD.out] at ht
      cases ht
      exact HPV.out
     ·exact HP.out i (by omega) t ht
    case measure => simp [intOf]; omega
theorem containsS {A : Option Addr} {n c : Nat} {l : List SecS} {f : FuncId} {cap : Array Value} {p : SecS → Bool} {I : World → Prop} (hI : Stays I) (hn : l.length = n) (hm : n ≤ 4611686018427387904) (hcf : ∀ (args : Array Value) (u : World), (callFunc f args).run Tryz.prog u = .ok (.enter f args) u)
  (KF : Hid (∀ s ∈ l, RetI I f (#[secV s] ++ cap) (.bool (p s)))) :
  RetI (fun w => Row w A (flatG scells l) ∧ I w) 33 #[.slice A n c, .func (.func f) #[] cap] (.bool (l.any p)) := by
 intro w hg hi
 have hs := St.refl hg
 have K := indexS (A := A) (c := c) hI hn hm hcf KF
 have e := idxG_any p l
 generalize idxG p l = r at *
 generalize l.any p = v at *
 have Hi := Lib.hid hi
 clear hn hi hI
 go_enter Tryz.func33, Tryz.ntmps33
 go_wp2_with fail
 refine K.step hs Hi.out ?_
 intro w1 hs _
 go_wp2_with fail
 go_ret
 exact ⟨rfl, hs.2⟩
theorem canonF1 {a b : ByteArray} (h1 : a.size ≤ 100000) (h2 : b.size ≤ 100000) : Ret 144 #[.agg #[.string a, .string b]] (.bool (chkF a b != 0)) := by
 intro w hg
 have hs := (St.refl hg).alloc (.cells #[.string a, .string b] 34)
 have K1 := ChkF h1 h2
 unfold FV at K1
 generalize chkF a b = r at *
 go_enter Tryz.func144, Tryz.ntmps144
 go_wp2_with fail
 refine K1.step hs ?_
 intro w1 hs _
 go_wp2_with fail
 go_ret
 exact ⟨rfl, hs.2⟩
theorem fr_all (l : List FrS) : (!(l.any fun s => chkF s.n s.d != 0)) = l.all fun s => canB s.n s.d := by
 induction l with
 | nil => rfl
 | cons a l ih =>
  rw [List.any_cons, List.all_cons, ← ih, Bool.not_or]
  congr 1
  unfold canB
  cases h : (chkF a.n a.d == 0) with
  | true => simp [bne, h]
  | false => simp [bne, h]
theorem canonF_any {A : Option Addr} {n c : Nat} {l : List FrS} (hn : l.length = n) (hm : n ≤ 4611686018427387904) (hl : ∀ s ∈ l, s.n.size ≤ 100000 ∧ s.d.size ≤ 100000) : RetI (fun w => Row w A (flatG fcells l)) 88 #[.slice A n c] (.bool (l.all fun s => canB s.n s.d)) := by
 intro w hg hi
 have hs := St.refl hg
 have K := containsF (A := A) (c := c) (l := l) (f := 144) (cap := #[]) (p := fun s => chkF s.n s.d != 0) stays_true hn hm (by intro a u; kernel_rfl) (fun s hs => (canonF1 (hl s hs).1 (hl s hs).2).i _)
 have e := fr_all l
 generalize l.any (fun s => chkF s.n s.d != 0) = v at *
 generalize l.all (fun s => canB s.n s.d) = v2 at *
 subst e
 have Hi := Lib.hid hi
 clear hn hi hl
 go_enter Tryz.func88, Tryz.ntmps88
 go_wp2_with fail
 refine K.step hs ⟨Hi.out, trivial⟩ ?_
 intro w1 hs _
 go_wp2_with fail
 go_ret
 exact ⟨rfl, hs.2⟩
end Go.Proofs.YticfdeaphiifeaaGreatDoor
