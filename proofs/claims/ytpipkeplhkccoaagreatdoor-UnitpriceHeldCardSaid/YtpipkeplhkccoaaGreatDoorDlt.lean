/- Unit prices: looking through dealings; the law's long. Condition: sizes that strings can have. -/
import Derived.Test.YtpipkeplhkccoaaGreatDoorRet
import Derived.Test.YtpipkeplhkccoaaGreatDoorUa
namespace Go.Proofs.YtpipkeplhkccoaaGreatDoor
open Go.RowKit Go.Shelf Dec QQ

def dncells (s : Dn) : List Value := [.string s.a, .string s.b, .string s.c, .string s.d]
def dnV (s : Dn) : Value := .agg #[.string s.a, .string s.b, .string s.c, .string s.d]
theorem dncells_len (s : Dn) : (dncells s).length = 4 := rfl
set_option maxRecDepth 100000 in
set_option maxHeartbeats 4000000 in
theorem indexDn {A : Option Addr} {n c : Nat} {l : List Dn} {f : FuncId} {cap : Array Value} {p : Dn → Bool} {I : World → Prop} (hI : Stays I) (hn : l.length = n) (hm : n ≤ 4611686018427387904) (hcf : ∀ (args : Array Value) (u : World), (callFunc f args).run Tryz.prog u = .ok (.enter f args) u)
    (KF : Hid (∀ s ∈ l, RetI I f (#[dnV s] ++ cap) (.bool (p s)))) :
    RetI (fun w => Row w A (flatG dncells l) ∧ I w) 98 #[.slice A n c, .func (.func f) #[] cap] (.int .i64 (idxG p l)) := by
  intro w hg hi
  have hs := St.refl hg
  have HN := Lib.hid hn
  have Hi := Lib.hid hi
  have HI := Lib.hid hI
  clear hn hi hI
  go_enter Tryz.func98, Tryz.ntmps98
  go_wp2_with fail
  go_loopw [8] (fun s wr => ∃ k : Nat, k ≤ n ∧ s = .int .i64 (k : Int) ∧ St w wr ∧ Hid (Row wr A (flatG dncells l) ∧ I wr) ∧ Hid (∀ i, i < k → ∀ t, l[i]? = some t → p t = false)) (fun s _ => (n - intOf s).toNat)
  case atStart => exact ⟨0, by omega, rfl, hs, Hi, fun i h => by omega⟩
  case round =>
    obtain ⟨k, hk, rfl, hs, H, HP⟩ := hrel
    by_cases hkn : k = n
    · subst hkn
      have q : decide ((k : Int) < (k : Int)) = false := decide_eq_false (by omega)
      have HE := Lib.hid (idxG_none (p := p) (l := l) (fun i hi t ht => HP.out i (by rw [HN.out] at hi; exact hi) t ht))
      clear HP
      go_wp2_with fail
      go_ret
      exact ⟨by rw [HE.out]; rfl, hs.2⟩
    · have hkl : k < n := by omega
      have q : decide ((k : Int) < (n : Int)) = true := decide_eq_true (by omega)
      have qn : decide (k < n) = true := decide_eq_true hkl
      obtain ⟨d, hd⟩ : ∃ d, l[k]? = some d := ⟨l[k]'(by rw [HN.out]; exact hkl), by simp⟩
      obtain ⟨b, o, hA, hb, hcells⟩ := row_at (cs := dncells) (m := 4) dncells_len (by decide) H.out.1 hd
      subst hA
      have KK := KF.out d (List.mem_of_getElem? hd)
      have HD := Lib.hid hd
      clear hd hkn
      obtain ⟨pv, hpv⟩ : ∃ pv, p d = pv := ⟨_, rfl⟩
      rw [hpv] at KK
      have HPV := Lib.hid hpv
      clear hpv
      obtain ⟨f0, f1, f2, f3⟩ := d
      have x0 : wr.cell? ⟨b, o + k * 4, none⟩ = some (.string f0) := hcells 0 _ rfl
      have x1 : wr.cell? ⟨b, o + k * 4 + 1, none⟩ = some (.string f1) := hcells 1 _ rfl
      have x2 : wr.cell? ⟨b, o + k * 4 + 2, none⟩ = some (.string f2) := hcells 2 _ rfl
      have x3 : wr.cell? ⟨b, o + k * 4 + 3, none⟩ = some (.string f3) := hcells 3 _ rfl
      have HC := Lib.hid hcells
      clear hcells
      dsimp only [dnV] at KK
      cases pv with
      | true =>
        have HE := Lib.hid (idxG_at HD.out HPV.out HP.out)
        go_wp2_with fail
        refine KK.step hs H.out.2 ?_
        intro w2 hs hb
        go_wp2_with fail
        go_ret
        exact ⟨by rw [HE.out]; rfl, hs.2⟩
      | false =>
        go_wp2_with fail
        refine KK.step hs H.out.2 ?_
        intro w2 hs hb
        have H2 : Hid (Row w2 (some ⟨b, o, none⟩) (flatG dncells l) ∧ I w2) := ⟨H.out.1.on hb, HI.out _ _ H.out.2 hb⟩
        go_wp2_with fail
        go_roundw
        case rel =>
          refine ⟨k + 1, by omega, by go_num, hs, H2, ?_⟩
          intro i hi t ht
          by_cases e : i = k
          · subst e
            rw [HD.out] at ht
            cases ht
            exact HPV.out
          · exact HP.out i (by omega) t ht
        case measure => simp [intOf]; omega
set_option maxRecDepth 100000 in
set_option maxHeartbeats 4000000 in
theorem containsDn {A : Option Addr} {n c : Nat} {l : List Dn} {f : FuncId} {cap : Array Value} {p : Dn → Bool} {I : World → Prop} (hI : Stays I) (hn : l.length = n) (hm : n ≤ 4611686018427387904) (hcf : ∀ (args : Array Value) (u : World), (callFunc f args).run Tryz.prog u = .ok (.enter f args) u)
    (KF : Hid (∀ s ∈ l, RetI I f (#[dnV s] ++ cap) (.bool (p s)))) :
    RetI (fun w => Row w A (flatG dncells l) ∧ I w) 36 #[.slice A n c, .func (.func f) #[] cap] (.bool (l.any p)) := by
  intro w hg hi
  have hs := St.refl hg
  have K := indexDn (A := A) (c := c) hI hn hm hcf KF
  have e := idxG_any p l
  generalize idxG p l = r at *
  generalize l.any p = v at *
  have Hi := Lib.hid hi
  clear hn hi hI
  go_enter Tryz.func36, Tryz.ntmps36
  go_wp2_with fail
  refine K.step hs Hi.out ?_
  intro w1 hs _
  go_wp2_with fail
  go_ret
  exact ⟨rfl, hs.2⟩
/-- numbers too long for the law -/
def big20 (l : List ByteArray) : Bool := l.any fun s => decide (20 < s.size)
set_option maxRecDepth 100000 in
set_option maxHeartbeats 4000000 in
theorem long44_1 {s : Dn} (h : ∀ x ∈ s.l, x.size ≤ 9223372036854775807) : Ret 37 #[dnV s] (.bool (big20 s.l)) := by
  intro w hg
  obtain ⟨a, b, c, d⟩ := s
  unfold dnV
  dsimp only
  have hs := (St.refl hg).alloc (.cells #[.string a, .string b, .string c, .string d] 24)
  have X := Bx.new w #[.string a, .string b, .string c, .string d] 24
  have x0 := X.cell (i := 0) (v := .string a) rfl
  have x1 := X.cell (i := 1) (v := .string b) rfl
  have x2 := X.cell (i := 2) (v := .string c) rfl
  have x3 := X.cell (i := 3) (v := .string d) rfl
  have Y := Bx.new (w.alloc (.cells #[.string a, .string b, .string c, .string d] 24)) #[.string a, .string b, .string c, .string d] 22
  rw [World.size_alloc] at Y
  have R : Hid (Row ((w.alloc (.cells #[.string a, .string b, .string c, .string d] 24)).alloc (.cells #[.string a, .string b, .string c, .string d] 22)) (some ⟨w.heap.size + 1, 0, none⟩) (([a, b, c, d] : List ByteArray).map sv)) := Row.of Y
  have K := great44_any (A := some ⟨w.heap.size + 1, 0, none⟩) (n := 4) (c := 4) (l := [a, b, c, d]) rfl (by decide) h
  have e : big20 (Dn.mk a b c d).l = ([a, b, c, d].any fun s => decide (20 < s.size)) := rfl
  rw [e]
  generalize ([a, b, c, d].any fun s => decide (20 < s.size)) = v at *
  clear Y e h
  go_enter Tryz.func37, Tryz.ntmps37
  go_wp2_with fail
  refine K.step (hs.alloc _) R.out ?_
  intro w1 hs hb
  go_wp2_with fail
  go_ret
  exact ⟨rfl, hs.2⟩
set_option maxRecDepth 100000 in
set_option maxHeartbeats 4000000 in
theorem long44_any {A : Option Addr} {n c : Nat} {l : List Dn} (hn : l.length = n) (hm : n ≤ 4611686018427387904) (hz : ∀ s ∈ l, ∀ x ∈ s.l, x.size ≤ 9223372036854775807) :
    RetI (fun w => Row w A (flatG dncells l)) 7 #[.slice A n c] (.bool (l.any fun s => big20 s.l)) := by
  intro w hg hi
  have hs := St.refl hg
  have K := containsDn (A := A) (c := c) (cap := #[]) (f := 37) (p := fun s => big20 s.l) (l := l) (I := fun _ => True) (n := n) (fun _ _ _ _ => trivial) hn hm (fun _ _ => rfl) (fun s hs => (long44_1 (hz s hs)).i _)
  generalize (l.any fun s => big20 s.l) = v at *
  have Hi := Lib.hid hi
  clear hn hi hz
  go_enter Tryz.func7, Tryz.ntmps7
  go_wp2_with fail
  refine K.step hs ⟨Hi.out, trivial⟩ ?_
  intro w1 hs hb
  go_wp2_with fail
  go_ret
  exact ⟨rfl, hs.2⟩
end Go.Proofs.YtpipkeplhkccoaaGreatDoor
