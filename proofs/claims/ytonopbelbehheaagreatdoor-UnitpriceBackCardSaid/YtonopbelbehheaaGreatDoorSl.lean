/- Slices of strings: rows of cells; slices.IndexFunc, ContainsFunc over them. Condition: what the function returns. -/
import Derived.Test.YtonopbelbehheaaGreatDoorFrD
namespace Go.Proofs.YtonopbelbehheaaGreatDoor
open Go.RowKit Go.Shelf Dec

/-- the cells that a slice reads -/
def Row (w : World) (A : Option Addr) (vs : List Value) : Prop := ∀ (i : Nat) (v : Value), vs[i]? = some v → ∃ b o, A = some ⟨b, o, none⟩ ∧ b < w.heap.size ∧ w.cell? ⟨b, o + i, none⟩ = some v
theorem Row.on {w w' : World} {A : Option Addr} {vs : List Value} (h : Row w A vs) (hb : Below w.heap.size w w') : Row w' A vs := by
  intro i v hv
  obtain ⟨b, o, hA, hB, hc⟩ := h i v hv
  exact ⟨b, o, hA, Nat.lt_of_lt_of_le hB hb.size, (hb.cell (p := ⟨b, o + i, none⟩) hB).trans hc⟩
theorem Row.of {w : World} {b : Nat} {cs : Array Value} (h : Bx w b cs) : Row w (some ⟨b, 0, none⟩) cs.toList := by
  intro i v hv
  exact ⟨b, 0, rfl, h.lt, by rw [Nat.zero_add]; exact h.cell (by rw [← Array.getElem?_toList]; exact hv)⟩
def sv (s : ByteArray) : Value := .string s
/-- the call returns V wherever the world reads as I says -/
def RetI (I : World → Prop) (f : FuncId) (args : Array Value) (V : Value) : Prop := ∀ w, Gl w → I w → Calls Tryz.prog f args w fun e w' => e = .returned V ∧ Below w.heap.size w w'
theorem RetI.step {I : World → Prop} {f : FuncId} {args : Array Value} {V : Value} {w0 w : World} {Q : Ending → World → Prop} (h : RetI I f args V) (hs : St w0 w) (hi : I w) (k : ∀ w', St w0 w' → Below w.heap.size w w' → Q (.returned V) w') : Calls Tryz.prog f args w Q :=
  (h w hs.gl hi).mono fun _ w' ⟨he, hb⟩ => he ▸ k w' (hs.on hb) hb
theorem Ret.i {f : FuncId} {args : Array Value} {V : Value} (h : Ret f args V) (I : World → Prop) : RetI I f args V := fun w hg _ => h w hg
def Stays (I : World → Prop) : Prop := ∀ w w' : World, I w → Below w.heap.size w w' → I w'
/-- where the first one stands that p takes, or -1 -/
def idxI (p : ByteArray → Bool) (l : List ByteArray) : Int := match l.findIdx? p with | some i => i | none => -1
theorem idxI_any (p : ByteArray → Bool) (l : List ByteArray) : decide (0 ≤ idxI p l) = l.any p := by
  unfold idxI
  cases h : l.findIdx? p with
  | none =>
    have := List.findIdx?_eq_none_iff.1 h
    symm
    rw [List.any_eq_false.2 (fun x hx => by simp [this x hx])]
    rfl
  | some i =>
    obtain ⟨hi, h1, _⟩ := List.findIdx?_eq_some_iff_getElem.1 h
    rw [List.any_eq_true.2 ⟨l[i], List.getElem_mem hi, h1⟩]
    simp
theorem idxI_at {p : ByteArray → Bool} {l : List ByteArray} {k : Nat} {s : ByteArray} (hs : l[k]? = some s) (hp : p s = true) (hn : ∀ i, i < k → ∀ t, l[i]? = some t → p t = false) : idxI p l = k := by
  have hk : k < l.length := (List.getElem?_eq_some_iff.1 hs).1
  have : l.findIdx? p = some k := by
    rw [List.findIdx?_eq_some_iff_getElem]
    refine ⟨hk, ?_, fun j hj => ?_⟩
    · have := (List.getElem?_eq_some_iff.1 hs).2
      rw [this]; exact hp
    · have := hn j hj l[j] (List.getElem?_eq_getElem (by omega))
      simp [this]
  unfold idxI
  rw [this]
theorem idxI_none {p : ByteArray → Bool} {l : List ByteArray} (hn : ∀ i, i < l.length → ∀ t, l[i]? = some t → p t = false) : idxI p l = -1 := by
  have : l.findIdx? p = none := by
    rw [List.findIdx?_eq_none_iff]
    intro x hx
    obtain ⟨i, hi, rfl⟩ := List.mem_iff_getElem.1 hx
    exact hn i hi _ (List.getElem?_eq_getElem hi)
  unfold idxI
  rw [this]

set_option maxRecDepth 100000 in
set_option maxHeartbeats 2000000 in
theorem index_any {A : Option Addr} {n c : Nat} {l : List ByteArray} {f : FuncId} {cap : Array Value} {p : ByteArray → Bool} {I : World → Prop} (hI : Stays I) (hn : l.length = n) (hm : n ≤ 4611686018427387904) (hcf : ∀ (args : Array Value) (u : World), (callFunc f args).run Tryz.prog u = .ok (.enter f args) u)
    (KF : Hid (∀ s ∈ l, RetI I f (#[.string s] ++ cap) (.bool (p s)))) :
    RetI (fun w => Row w A (l.map sv) ∧ I w) 148 #[.slice A n c, .func (.func f) #[] cap] (.int .i64 (idxI p l)) := by
  intro w hg hi
  have hs := St.refl hg
  have HN := Lib.hid hn
  have Hi := Lib.hid hi
  have HI := Lib.hid hI
  clear hn hi hI
  go_enter Tryz.func148, Tryz.ntmps148
  go_wp2_with fail
  go_loopw [8] (fun s wr => ∃ k : Nat, k ≤ n ∧ s = .int .i64 (k : Int) ∧ St w wr ∧ Hid (Row wr A (l.map sv) ∧ I wr) ∧ Hid (∀ i, i < k → ∀ t, l[i]? = some t → p t = false)) (fun s _ => (n - intOf s).toNat)
  case atStart => exact ⟨0, by omega, rfl, hs, Hi, fun i h => by omega⟩
  case round =>
    obtain ⟨k, hk, rfl, hs, H, HP⟩ := hrel
    by_cases hkn : k = n
    · have q : decide ((k : Int) < (n : Int)) = false := decide_eq_false (by omega)
      have HE := Lib.hid (idxI_none (p := p) (l := l) (fun i hi t ht => HP.out i (by rw [HN.out] at hi; omega) t ht))
      go_wp2_with fail
      go_ret
      exact ⟨by rw [HE.out]; rfl, hs.2⟩
    · have hkl : k < n := by omega
      have q : decide ((k : Int) < (n : Int)) = true := decide_eq_true (by omega)
      obtain ⟨s, hs0⟩ : ∃ s, l[k]? = some s := ⟨l[k]'(by rw [HN.out]; exact hkl), by simp⟩
      obtain ⟨b, o, hA, hB, hc⟩ := H.out.1 k (.string s) (by rw [List.getElem?_map, hs0]; rfl)
      subst hA
      have KK := KF.out s (List.mem_of_getElem? hs0)
      have HS := Lib.hid hs0
      clear hs0 hkn
      obtain ⟨pv, hpv⟩ : ∃ pv, p s = pv := ⟨_, rfl⟩
      rw [hpv] at KK
      have HPV := Lib.hid hpv
      clear hpv
      cases pv with
      | true =>
        have HE := Lib.hid (idxI_at HS.out HPV.out HP.out)
        go_wp2_with fail
        refine KK.step hs H.out.2 ?_
        intro w2 hs hb
        go_wp2_with fail
        go_ret
        exact ⟨by rw [HE.out]; rfl, hs.2⟩
      | false =>
        go_wp2_with fail
        refine KK.step hs H.out.2 ?_
        intro w2 hs hb
        have H2 : Hid (Row w2 (some ⟨b, o, none⟩) (l.map sv) ∧ I w2) := ⟨H.out.1.on hb, HI.out _ _ H.out.2 hb⟩
        go_wp2_with fail
        go_roundw
        case rel =>
          refine ⟨k + 1, by omega, by go_num, hs, H2, ?_⟩
          intro i hi t ht
          by_cases e : i = k
          · subst e
            rw [HS.out] at ht
            cases ht
            exact HPV.out
          · exact HP.out i (by omega) t ht
        case measure => simp [intOf]; omega
set_option maxHeartbeats 1000000 in
theorem contains_any {A : Option Addr} {n c : Nat} {l : List ByteArray} {f : FuncId} {cap : Array Value} {p : ByteArray → Bool} {I : World → Prop} (hI : Stays I) (hn : l.length = n) (hm : n ≤ 4611686018427387904) (hcf : ∀ (args : Array Value) (u : World), (callFunc f args).run Tryz.prog u = .ok (.enter f args) u)
    (KF : Hid (∀ s ∈ l, RetI I f (#[.string s] ++ cap) (.bool (p s)))) :
    RetI (fun w => Row w A (l.map sv) ∧ I w) 89 #[.slice A n c, .func (.func f) #[] cap] (.bool (l.any p)) := by
  intro w hg hi
  have hs := St.refl hg
  have K := index_any (A := A) (c := c) hI hn hm hcf KF
  have e := idxI_any p l
  generalize idxI p l = r at *
  generalize l.any p = v at *
  have Hi := Lib.hid hi
  clear hn hi hI
  go_enter Tryz.func89, Tryz.ntmps89
  go_wp2_with fail
  refine K.step hs Hi.out ?_
  intro w1 hs _
  go_wp2_with fail
  go_ret
  exact ⟨rfl, hs.2⟩
end Go.Proofs.YtonopbelbehheaaGreatDoor
