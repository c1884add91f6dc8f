/- UnitpriceHeld: plain laws. No condition. -/
import Derived.Test.YtpipkeplhkccoaaGreatDoorDlt
import Derived.Test.YtpipkeplhkccoaaGreatDoorDd
namespace Go.Proofs.YtpipkeplhkccoaaGreatDoor
open Go.RowKit Go.Shelf Dec QQ SP

theorem csgn (a b : Int) : (0 < cmpI a b ↔ b < a) ∧ (cmpI a b < 0 ↔ a < b) := by
  unfold cmpI
  split
  · omega
  · split <;> omega
theorem ucheck_of {l : List ByteArray} (h : ∀ s ∈ l, chk s = 0 ∧ 0 ≤ valS s) : ucheck l = 0 := by
  unfold ucheck
  rw [if_neg, if_neg]
  · rw [Bool.not_eq_true, List.any_eq_false]
    intro s hs
    have := (h s hs).2
    simp
    omega
  · rw [Bool.not_eq_true, List.any_eq_false]
    intro s hs
    rw [(h s hs).1]
    decide
theorem re_zero {x y : Dn} (h : reE x y = 0) : (∀ s ∈ x.l ++ y.l, chk s = 0 ∧ 0 ≤ valS s) ∧ x.c ≠ nil ∧ y.c ≠ nil ∧ x.d ≠ nil := by
  unfold reE at h
  split at h
  · rename_i h1; exact absurd h h1
  · rename_i h1
    split at h
    · cases h
    · rename_i h2
      have h3 : ucheck (x.l ++ y.l) = 0 := Classical.not_not.1 h1
      exact ⟨ucheck_zero h3, fun e => h2 (.inl e), fun e => h2 (.inr (.inl e)), fun e => h2 (.inr (.inr e))⟩
theorem nz {s : ByteArray} (h : chk s = 0) (h0 : s ≠ nil) : valS s ≠ 0 := val_ne h (by rw [Bool.eq_false_iff]; exact fun e => h0 (isNil_iff.1 e))
/-- returns of successive times are multiplied -/
theorem re_mul {x y z : Dn} (h1 : reE x y = 0) (h2 : reE y z = 0) : reE x z = 0 ∧ reQ x y * reQ y z = reQ x z := by
  obtain ⟨a1, a2, a3, a4⟩ := re_zero h1
  obtain ⟨b1, b2, b3, b4⟩ := re_zero h2
  have hx : ∀ s ∈ x.l, chk s = 0 ∧ 0 ≤ valS s := fun s hs => a1 s (List.mem_append_left _ hs)
  have hy : ∀ s ∈ y.l, chk s = 0 ∧ 0 ≤ valS s := fun s hs => a1 s (List.mem_append_right _ hs)
  have hz : ∀ s ∈ z.l, chk s = 0 ∧ 0 ≤ valS s := fun s hs => b1 s (List.mem_append_right _ hs)
  have h3 : reE x z = 0 := by
    unfold reE
    rw [if_neg (by rw [ucheck_of (fun s hs => by rcases List.mem_append.1 hs with h | h; exact hx s h; exact hz s h)]; simp), if_neg (by rintro (e | e | e); exact a2 e; exact b3 e; exact a4 e)]
  refine ⟨h3, ?_⟩
  unfold reQ
  rw [if_pos h1, if_pos h2, if_pos h3]
  have v1 := nz (hy y.c (by simp [Dn.l])).1 a3
  have v2 := nz (hx x.d (by simp [Dn.l])).1 a4
  have v3 := nz (hz z.c (by simp [Dn.l])).1 b3
  have v4 := nz (hy y.d (by simp [Dn.l])).1 b4
  rw [← rat_mul (Int.mul_ne_zero v1 v2) (Int.mul_ne_zero v3 v4)]
  have e1 : valS y.d * valS x.c * (valS z.d * valS y.c) = (valS y.d * valS y.c) * (valS z.d * valS x.c) := by
    simp only [Int.mul_comm, Int.mul_left_comm, Int.mul_assoc]
  have e2 : valS y.c * valS x.d * (valS z.c * valS y.d) = (valS y.d * valS y.c) * (valS z.c * valS x.d) := by
    simp only [Int.mul_comm, Int.mul_left_comm, Int.mul_assoc]
  rw [e1, e2]
  exact rat_scale (Int.mul_ne_zero v4 v1) (Int.mul_ne_zero v3 v2)
/-- what holders are given -/
structure HoOk (x : Dn) (ws : List ByteArray) (L : List Int) : Prop where
  len : L.length = ws.length
  sum : canS L.sum = x.a
  ord : ∀ i k, i < ws.length → k < ws.length → ¬ (0 < cmpI (at0 (iv ws) i) (at0 (iv ws) k) ∧ cmpI (at0 L i) (at0 L k) < 0)
theorem ho_ok {x : Dn} {ws : List ByteArray} (h : hoE x.a x.b x.c x.d ws = 0) : HoOk x ws (hoL x.a x.b x.c x.d ws) := by
  unfold hoE at h
  unfold hoL
  split at h
  · rename_i h1; exact absurd h h1
  · rename_i h1
    rw [if_neg h1]
    have hu := ucheck_zero (Classical.not_not.1 h1)
    have ha := hu x.a (by simp)
    have ho := alE_zero.1 h
    have eS : alS x.a ws = splL (valS x.a) (iv ws) := if_pos h
    rw [eS]
    have ep : splL (valS x.a) (iv ws) = posL (valS x.a) (iv ws) := by unfold splL; rw [if_neg (by omega)]
    refine ⟨by rw [splL_len, iv_len], by rw [splL_sum _ ho.ok]; exact chk_eq ha.1, fun i k hi hk => ?_⟩
    rw [ep]
    have hq := (posL_order ho.ok ha.2 (i := i) (k := k) (by rw [iv_len]; exact hi) (by rw [iv_len]; exact hk)).1
    rintro ⟨g1, g2⟩
    have c1 := (csgn (at0 (iv ws) i) (at0 (iv ws) k)).1
    have c2 := (csgn (at0 (posL (valS x.a) (iv ws)) i) (at0 (posL (valS x.a) (iv ws)) k)).2
    have := hq (c1.1 g1)
    have := c2.1 g2
    omega
theorem spl_fitH {T : Int} {ws : List Int} {k0 : Nat} (hT : Fit k0 T) (hw : ∀ x ∈ ws, Fit k0 x) : ∀ x ∈ splL T ws, Fit (k0 + k0 + 2) x := by
  intro x hx
  unfold splL at hx
  split at hx
  · obtain ⟨y, hy, rfl⟩ := List.mem_map.1 hx
    have := pos_fit (show Fit k0 (-T) by unfold Fit at *; rwa [Int.natAbs_neg]) hw y hy
    unfold Fit at *
    rwa [Int.natAbs_neg]
  · exact pos_fit hT hw x hx
theorem hoL_fit {x : Dn} {ws : List ByteArray} (hx : x.a.size ≤ 20) (hz : ∀ s ∈ ws, s.size ≤ 20) : ∀ z ∈ hoL x.a x.b x.c x.d ws, Fit 42 z := by
  unfold hoL
  split
  · intro z h; cases h
  · unfold alS
    split
    · exact spl_fitH (Fit.val hx) (iv_fit hz)
    · intro z h; cases h
theorem sum_fit9 {K : Nat} : ∀ {l : List Int}, (∀ z ∈ l, Fit K z) → l.length ≤ 9 → Fit (K + 1) l.sum := by
  have h : ∀ {l : List Int}, (∀ z ∈ l, Fit K z) → l.sum.natAbs ≤ l.length * 10 ^ K := fun {l} hl => by
    induction l with
    | nil => simp
    | cons a l ih =>
      have h1 : a.natAbs < 10 ^ K := hl a (List.mem_cons_self ..)
      have h2 := ih (fun z hz => hl z (List.mem_cons_of_mem _ hz))
      rw [List.sum_cons, List.length_cons, Nat.succ_mul]
      omega
  intro l hl h9
  have h1 := h hl
  have h2 : l.length * 10 ^ K ≤ 9 * 10 ^ K := Nat.mul_le_mul_right _ h9
  have h3 : 0 < 10 ^ K := Nat.pow_pos (by decide)
  show l.sum.natAbs < 10 ^ (K + 1)
  rw [Nat.pow_succ]
  omega
theorem row_cell {w : World} {vs : List Value} {b o i : Nat} {v : Value} (h : Row w (some ⟨b, o, none⟩) vs) (hv : vs[i]? = some v) : w.cell? ⟨b, o + i, none⟩ = some v := by
  obtain ⟨b', o', hA, _, hc⟩ := h i v hv
  injection hA with e
  injection e with e1 e2
  subst e1 e2
  exact hc
theorem row_addr {w : World} {A : Option Addr} {vs : List Value} {i : Nat} {v : Value} (h : Row w A vs) (hv : vs[i]? = some v) : ∃ b o, A = some ⟨b, o, none⟩ := by
  obtain ⟨b, o, hA, _⟩ := h i v hv
  exact ⟨b, o, hA⟩
theorem take_sum {L : List Int} {i : Nat} (h : i < L.length) : (L.take (i + 1)).sum = (L.take i).sum + at0 L i := by
  rw [List.take_add_one, at0_lt h]
  simp
set_option maxRecDepth 100000 in
set_option maxHeartbeats 4000000 in
theorem index_anyB {A : Option Addr} {n c : Nat} {l : List ByteArray} {f : FuncId} {cap : Array Value} {p : ByteArray → Bool} {I : World → Prop} (hI : Stays I) (hn : l.length = n) (hm : n ≤ 9223372036854775807) (hcf : ∀ (args : Array Value) (u : World), (callFunc f args).run Tryz.prog u = .ok (.enter f args) u)
    (KF : Hid (∀ s ∈ l, RetI I f (#[.string s] ++ cap) (.bool (p s)))) :
    RetI (fun w => Row w A (l.map sv) ∧ I w) 99 #[.slice A n c, .func (.func f) #[] cap] (.int .i64 (idxI p l)) := by
  intro w hg hi
  have hs := St.refl hg
  have HN := Lib.hid hn
  have Hi := Lib.hid hi
  have HI := Lib.hid hI
  clear hn hi hI
  go_enter Tryz.func99, Tryz.ntmps99
  go_wp2_with fail
  go_loopw [8] (fun s wr => ∃ k : Nat, k ≤ n ∧ s = .int .i64 (k : Int) ∧ St w wr ∧ Hid (Row wr A (l.map sv) ∧ I wr) ∧ Hid (∀ i, i < k → ∀ t, l[i]? = some t → p t = false)) (fun s _ => (n - intOf s).toNat)
  case atStart => exact ⟨0, by omega, rfl, hs, Hi, fun i h => by omega⟩
  case round =>
    obtain ⟨k, hk, rfl, hs, H, HP⟩ := hrel
    by_cases hkn : k = n
    · have q : decide ((k : Int) < (n : Int)) = false := decide_eq_false (by omega)
      have HE := Lib.hid (idxI_none (p := p) (l := l) (fun i hi t ht => HP.out i (by rw [HN.out] at hi; omega) t ht))
      go_wp2_with fail
      go_ret
      exact ⟨by rw [HE.out]; rfl, hs.2⟩
    · have hkl : k < n := by omega
      have q : decide ((k : Int) < (n : Int)) = true := decide_eq_true (by omega)
      obtain ⟨s, hs0⟩ : ∃ s, l[k]? = some s := ⟨l[k]'(by rw [HN.out]; exact hkl), by simp⟩
      obtain ⟨b, o, hA, hB, hc⟩ := H.out.1 k (.string s) (by rw [List.getElem?_map, hs0]; rfl)
      subst hA
      have KK := KF.out s (List.mem_of_getElem? hs0)
      have HS := Lib.hid hs0
      clear hs0 hkn
      obtain ⟨pv, hpv⟩ : ∃ pv, p s = pv := ⟨_, rfl⟩
      rw [hpv] at KK
      have HPV := Lib.hid hpv
      clear hpv
      cases pv with
      | true =>
        have HE := Lib.hid (idxI_at HS.out HPV.out HP.out)
        go_wp2_with fail
        refine KK.step hs H.out.2 ?_
        intro w2 hs hb
        go_wp2_with fail
        go_ret
        exact ⟨by rw [HE.out]; rfl, hs.2⟩
      | false =>
        go_wp2_with fail
        refine KK.step hs H.out.2 ?_
        intro w2 hs hb
        have H2 : Hid (Row w2 (some ⟨b, o, none⟩) (l.map sv) ∧ I w2) := ⟨H.out.1.on hb, HI.out _ _ H.out.2 hb⟩
        go_wp2_with fail
        go_roundw
        case rel =>
          refine ⟨k + 1, by omega, by go_num, hs, H2, ?_⟩
          intro i hi t ht
          by_cases e : i = k
          · subst e
            rw [HS.out] at ht
            cases ht
            exact HPV.out
          · exact HP.out i (by omega) t ht
        case measure => simp [intOf]; omega
set_option maxRecDepth 100000 in
set_option maxHeartbeats 4000000 in
theorem contains_anyB {A : Option Addr} {n c : Nat} {l : List ByteArray} {f : FuncId} {cap : Array Value} {p : ByteArray → Bool} {I : World → Prop} (hI : Stays I) (hn : l.length = n) (hm : n ≤ 9223372036854775807) (hcf : ∀ (args : Array Value) (u : World), (callFunc f args).run Tryz.prog u = .ok (.enter f args) u)
    (KF : Hid (∀ s ∈ l, RetI I f (#[.string s] ++ cap) (.bool (p s)))) :
    RetI (fun w => Row w A (l.map sv) ∧ I w) 38 #[.slice A n c, .func (.func f) #[] cap] (.bool (l.any p)) := by
  intro w hg hi
  have hs := St.refl hg
  have K := index_anyB (A := A) (c := c) hI hn hm hcf KF
  have e := idxI_any p l
  generalize idxI p l = r at *
  generalize l.any p = v at *
  have Hi := Lib.hid hi
  clear hn hi hI
  go_enter Tryz.func38, Tryz.ntmps38
  go_wp2_with fail
  refine K.step hs Hi.out ?_
  intro w1 hs _
  go_wp2_with fail
  go_ret
  exact ⟨rfl, hs.2⟩
set_option maxRecDepth 100000 in
set_option maxHeartbeats 4000000 in
theorem great44_anyB {A : Option Addr} {n c : Nat} {l : List ByteArray} (hn : l.length = n) (hm : n ≤ 9223372036854775807) (hl : ∀ s ∈ l, s.size ≤ 9223372036854775807) :
    RetI (fun w => Row w A (l.map sv)) 8 #[.slice A n c] (.bool (l.any fun s => decide (20 < s.size))) := by
  intro w hg hi
  have hs := St.refl hg
  have K1 := contains_anyB (A := A) (c := c) (cap := #[]) (f := 39) (p := fun s => decide (20 < s.size)) (I := fun _ => True) (fun _ _ _ _ => trivial) hn hm (fun _ _ => rfl) (fun s hs => (great44_1 (hl s hs)).i _)
  clear hl
  generalize (l.any fun s => decide (20 < s.size)) = v1 at *
  have Hi := Lib.hid hi
  clear hi hn
  go_enter Tryz.func8, Tryz.ntmps8
  go_wp2_with fail
  refine K1.step hs ⟨Hi.out, trivial⟩ ?_
  intro w1 hs hb
  go_wp2_with fail
  go_ret
  exact ⟨rfl, hs.2⟩
end Go.Proofs.YtpipkeplhkccoaaGreatDoor
