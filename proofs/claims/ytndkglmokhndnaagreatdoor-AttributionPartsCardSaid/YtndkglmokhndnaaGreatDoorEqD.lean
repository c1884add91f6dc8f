/- Unit prices: the comparison of two equal lists of results; the look through days of deals. Conditions: short lists. -/
import Derived.Test.YtndkglmokhndnaaGreatDoorRunQ
import Derived.Test.YtndkglmokhndnaaGreatDoorUa
namespace Go.Proofs.YtndkglmokhndnaaGreatDoor
open Go.RowKit Go.Shelf Dec QQ

theorem rflat_at {l : List DealtR} {k j : Nat} {d : DealtR} {x : Value} (h : l[k]? = some d) (hj : (rcells d)[j]? = some x) : (rflat l)[4 * k + j]? = some x := by
  induction l generalizing k with
  | nil => simp at h
  | cons e l ih =>
    have hj4 : j < 4 := by
      have := (List.getElem?_eq_some_iff.1 hj).1
      simpa [rcells] using this
    cases k with
    | zero =>
      simp at h
      subst h
      show (rcells e ++ rflat l)[4 * 0 + j]? = some x
      rw [List.getElem?_append_left (by simp [rcells]; omega)]
      simpa using hj
    | succ k =>
      simp at h
      show (rcells e ++ rflat l)[4 * (k + 1) + j]? = some x
      rw [List.getElem?_append_right (by simp [rcells]; omega)]
      have := ih h
      rw [show 4 * (k + 1) + j - (rcells e).length = 4 * k + j by simp [rcells]; omega]
      exact this
theorem neqD (a b c d a' b' c' d' : ByteArray) (u : World) : (binOp .neq 32 (.agg #[.string a, .string b, .string c, .string d]) (.agg #[.string a', .string b', .string c', .string d'])).run Tryz.prog u = .ok (.bool (!((a.toList == a'.toList) && (b.toList == b'.toList) && (c.toList == c'.toList) && (d.toList == d'.toList)))) u := by
  simp [go_sem]
  repeat' split
  all_goals simp_all
theorem out_row {base n : Nat} {w : World} {v : Value} {xs : List DealtR} (h : OutIs base w v n xs) : ∃ A c, v = .slice A n c ∧ Row w A (rflat xs) := by
  rcases h.2.2 with ⟨rfl, h0⟩ | ⟨g, cap, cur, rfl, e2, e3, e4, e5, e6, e7⟩
  · subst h0
    have : xs = [] := List.length_eq_zero_iff.1 h.1
    subst this
    exact ⟨none, 0, rfl, fun i v hv => by simp [rflat] at hv⟩
  · refine ⟨_, _, rfl, fun i v hv => ⟨g, 0, rfl, (Array.getElem?_eq_some_iff.1 e3).1, ?_⟩⟩
    have hl := (List.getElem?_eq_some_iff.1 hv).1
    rw [← e7] at hv
    have h2 : i < n * 4 := by rw [List.getElem?_take] at hv; split at hv; assumption; cases hv
    rw [List.getElem?_take, if_pos h2, Array.getElem?_toList] at hv
    rw [Nat.zero_add]
    simp [World.cell?, e3, hv]
set_option maxRecDepth 100000 in
set_option maxHeartbeats 4000000 in
theorem equalD {A A' : Option Addr} {n c c' : Nat} {xs : List DealtR} (hx : xs.length = n) (hn : n ≤ 6) : RetI (fun w => Row w A (rflat xs) ∧ Row w A' (rflat xs)) 17 #[.slice A n c, .slice A' n c'] (.bool true) := by
  intro w hg hi
  have hs := St.refl hg
  have HX := Lib.hid hx
  have HI := Lib.hid hi
  have q0 : ((n : Int) != (n : Int)) = false := by simp
  clear hx hi
  go_enter Tryz.func17, Tryz.ntmps17
  go_wp2_with fail
  go_loopw [13] (fun s wr => ∃ k : Nat, k ≤ n ∧ s = .int .i64 (k : Int) ∧ St w wr) (fun s _ => (n - intOf s).toNat)
  case atStart => exact ⟨0, by omega, rfl, hs⟩
  case round =>
    obtain ⟨k, hk, rfl, hs⟩ := hrel
    by_cases hkn : k = n
    · subst hkn
      have q : decide ((k : Int) < (k : Int)) = false := decide_eq_false (by omega)
      go_wp2_with fail
      go_ret
      exact ⟨rfl, hs.2⟩
    · have hkl : k < n := by omega
      have q : decide ((k : Int) < (n : Int)) = true := decide_eq_true (by omega)
      have qn : decide (k < n) = true := decide_eq_true hkl
      obtain ⟨r, hr⟩ : ∃ r, xs[k]? = some r := ⟨xs[k]'(by rw [HX.out]; exact hkl), by simp⟩
      have R1 := HI.out.1.on hs.2
      have R2 := HI.out.2.on hs.2
      obtain ⟨b, o, rfl, hb, _⟩ := R1 _ _ (rflat_at (j := 0) hr rfl)
      obtain ⟨b', o', rfl, hb', _⟩ := R2 _ _ (rflat_at (j := 0) hr rfl)
      have xk : ∀ j v, (rcells r)[j]? = some v → wr.cell? ⟨b, o + (k * 4 + j), none⟩ = some v ∧ wr.cell? ⟨b', o' + (k * 4 + j), none⟩ = some v := by
        intro j v hj
        obtain ⟨b1, o1, hA, hB, hc⟩ := R1 _ _ (rflat_at hr hj)
        obtain ⟨b2, o2, hA2, hB2, hc2⟩ := R2 _ _ (rflat_at hr hj)
        injection hA with hA
        injection hA with h1 h2
        subst h1 h2
        injection hA2 with hA2
        injection hA2 with h3 h4
        subst h3 h4
        rw [show o + (4 * k + j) = o + (k * 4 + j) by omega] at hc
        rw [show o' + (4 * k + j) = o' + (k * 4 + j) by omega] at hc2
        exact ⟨hc, hc2⟩
      obtain ⟨r1, r2, r3, r4, r5⟩ := r
      have x0 : wr.cell? ⟨b, o + k * 4, none⟩ = some (.string r1) := (xk 0 _ rfl).1
      have x1 : wr.cell? ⟨b, o + k * 4 + 1, none⟩ = some (.string r2) := (xk 1 _ rfl).1
      have x2 : wr.cell? ⟨b, o + k * 4 + 2, none⟩ = some (.string r3) := (xk 2 _ rfl).1
      have x3 : wr.cell? ⟨b, o + k * 4 + 3, none⟩ = some (.string r4) := (xk 3 _ rfl).1
      have y0 : wr.cell? ⟨b', o' + k * 4, none⟩ = some (.string r1) := (xk 0 _ rfl).2
      have y1 : wr.cell? ⟨b', o' + k * 4 + 1, none⟩ = some (.string r2) := (xk 1 _ rfl).2
      have y2 : wr.cell? ⟨b', o' + k * 4 + 2, none⟩ = some (.string r3) := (xk 2 _ rfl).2
      have y3 : wr.cell? ⟨b', o' + k * 4 + 3, none⟩ = some (.string r4) := (xk 3 _ rfl).2
      have eqD := fun x => neqD r1 r2 r3 r4 r1 r2 r3 r4 x
      simp only [beq_self_eq_true, Bool.and_true, Bool.not_true] at eqD
      clear xk R1 R2 hr hkn
      go_wp2_with fail
      go_quiet (fail)
      go_wp2_with fail
      go_roundw
      case rel => exact ⟨k + 1, by omega, by go_num, hs.drewN _⟩
      case measure => simp [intOf]; omega
/-- where the first one stands that p takes, or -1 -/
def idxG {α : Type} (p : α → Bool) (l : List α) : Int := match l.findIdx? p with | some i => i | none => -1
theorem idxG_any {α : Type} (p : α → Bool) (l : List α) : decide (0 ≤ idxG p l) = l.any p := by
  unfold idxG
  cases h : l.findIdx? p with
  | none =>
    have := List.findIdx?_eq_none_iff.1 h
    symm
    rw [List.any_eq_false.2 (fun x hx => by simp [this x hx])]
    rfl
  | some i =>
    obtain ⟨hi, h1, _⟩ := List.findIdx?_eq_some_iff_getElem.1 h
    rw [List.any_eq_true.2 ⟨l[i], List.getElem_mem hi, h1⟩]
    simp
theorem idxG_at {α : Type} {p : α → Bool} {l : List α} {k : Nat} {s : α} (hs : l[k]? = some s) (hp : p s = true) (hn : ∀ i, i < k → ∀ t, l[i]? = some t → p t = false) : idxG p l = k := by
  have hk : k < l.length := (List.getElem?_eq_some_iff.1 hs).1
  have : l.findIdx? p = some k := by
    rw [List.findIdx?_eq_some_iff_getElem]
    refine ⟨hk, ?_, fun j hj => ?_⟩
    · have := (List.getElem?_eq_some_iff.1 hs).2
      rw [this]; exact hp
    · have := hn j hj l[j] (List.getElem?_eq_getElem (by omega))
      simp [this]
  unfold idxG
  rw [this]
theorem idxG_none {α : Type} {p : α → Bool} {l : List α} (hn : ∀ i, i < l.length → ∀ t, l[i]? = some t → p t = false) : idxG p l = -1 := by
  have : l.findIdx? p = none := by
    rw [List.findIdx?_eq_none_iff]
    intro x hx
    obtain ⟨i, hi, rfl⟩ := List.mem_iff_getElem.1 hx
    exact hn i hi _ (List.getElem?_eq_getElem hi)
  unfold idxG
  rw [this]

/-- longer numbers than the statements examine -/
def bigD (d : DealIn) : Bool := [d.v, d.p, d.b].any fun s => decide (20 < s.size)
set_option maxRecDepth 100000 in
set_option maxHeartbeats 4000000 in
theorem many1_any (d : DealIn) (h1 : d.v.size ≤ 9223372036854775807) (h2 : d.p.size ≤ 9223372036854775807) (h3 : d.b.size ≤ 9223372036854775807) : Ret 62 #[.agg #[.int .i64 d.day, .string d.v, .string d.p, .string d.b]] (.bool (bigD d)) := by
  intro w hg
  have hs := (St.refl hg).alloc (.cells #[.int .i64 d.day, .string d.v, .string d.p, .string d.b] 37)
  have K1 := great44_any (A := some ⟨w.heap.size + 1, 0, none⟩) (c := 3) (n := 3) (l := [d.v, d.p, d.b]) rfl (by omega) (by intro s hs; simp at hs; rcases hs with rfl | rfl | rfl <;> assumption)
  have HR := Lib.hid (Row.of (Bx.new1 w (.cells #[.int .i64 d.day, .string d.v, .string d.p, .string d.b] 37) #[.string d.v, .string d.p, .string d.b] 30))
  have e : bigD d = [d.v, d.p, d.b].any (fun s => decide (20 < s.size)) := rfl
  rw [← e] at K1
  generalize bigD d = t at *
  clear e
  go_enter Tryz.func62, Tryz.ntmps62
  go_wp2_with fail
  refine K1.step (hs.alloc _) HR.out ?_
  intro w1 hs _
  go_wp2_with fail
  go_ret
  exact ⟨rfl, hs.2⟩
set_option maxRecDepth 100000 in
set_option maxHeartbeats 8000000 in
theorem indexD {bb oo n c : Nat} {l : List DealIn} (hn : l.length = n) (hm : n ≤ 100000) (hz : ∀ d ∈ l, d.v.size ≤ 9223372036854775807 ∧ d.p.size ≤ 9223372036854775807 ∧ d.b.size ≤ 9223372036854775807) :
    RetI (fun w => Row w (some ⟨bb, oo, none⟩) (dflat l)) 130 #[.slice (some ⟨bb, oo, none⟩) n c, .func (.func 62) #[] #[]] (.int .i64 (idxG bigD l)) := by
  intro w hg hi
  have hs := St.refl hg
  have HN := Lib.hid hn
  have HR := Lib.hid hi
  have HZ := Lib.hid hz
  clear hn hi hz
  go_enter Tryz.func130, Tryz.ntmps130
  go_wp2_with fail
  go_loopw [8] (fun s wr => ∃ k : Nat, k ≤ n ∧ s = .int .i64 (k : Int) ∧ St w wr ∧ Hid (∀ i, i < k → ∀ t, l[i]? = some t → bigD t = false)) (fun s _ => (n - intOf s).toNat)
  case atStart => exact ⟨0, by omega, rfl, hs, fun i h => by omega⟩
  case round =>
    obtain ⟨k, hk, rfl, hs, HP⟩ := hrel
    by_cases hkn : k = n
    · subst hkn
      have q : decide ((k : Int) < (k : Int)) = false := decide_eq_false (by omega)
      have HE := Lib.hid (idxG_none (p := bigD) (l := l) (fun i hi t ht => HP.out i (by rw [HN.out] at hi; exact hi) t ht))
      clear HP
      go_wp2_with fail
      go_ret
      exact ⟨by rw [HE.out]; rfl, hs.2⟩
    · have hkl : k < n := by omega
      have q : decide ((k : Int) < (n : Int)) = true := decide_eq_true (by omega)
      have qn : decide (k < n) = true := decide_eq_true hkl
      obtain ⟨d, hd⟩ : ∃ d, l[k]? = some d := ⟨l[k]'(by rw [HN.out]; exact hkl), by simp⟩
      have R1 := HR.out.on hs.2
      have xk : ∀ j v, (dcells d)[j]? = some v → wr.cell? ⟨bb, oo + (k * 4 + j), none⟩ = some v := by
        intro j v hj
        obtain ⟨b, o, hA, hB, hc⟩ := R1 _ _ (dflat_at hd hj)
        injection hA with hA
        injection hA with h1 h2
        subst h1 h2
        rwa [show oo + (4 * k + j) = oo + (k * 4 + j) by omega] at hc
      have x0 : wr.cell? ⟨bb, oo + k * 4, none⟩ = some (.int .i64 d.day) := xk 0 _ rfl
      have x1 : wr.cell? ⟨bb, oo + k * 4 + 1, none⟩ = some (.string d.v) := xk 1 _ rfl
      have x2 : wr.cell? ⟨bb, oo + k * 4 + 2, none⟩ = some (.string d.p) := xk 2 _ rfl
      have x3 : wr.cell? ⟨bb, oo + k * 4 + 3, none⟩ = some (.string d.b) := xk 3 _ rfl
      have hdz := HZ.out d (List.mem_of_getElem? hd)
      have KK := many1_any d hdz.1 hdz.2.1 hdz.2.2
      have HD := Lib.hid hd
      clear hd xk R1 hdz hkn
      obtain ⟨pv, hpv⟩ : ∃ pv, bigD d = pv := ⟨_, rfl⟩
      rw [hpv] at KK
      have HPV := Lib.hid hpv
      clear hpv
      cases pv with
      | true =>
        have HE := Lib.hid (idxG_at HD.out HPV.out HP.out)
        go_wp2_with fail
        refine KK.step hs ?_
        intro w2 hs hb
        go_wp2_with fail
        go_ret
        exact ⟨by rw [HE.out]; rfl, hs.2⟩
      | false =>
        go_wp2_with fail
        refine KK.step hs ?_
        intro w2 hs hb
        go_wp2_with fail
        go_roundw
        case rel =>
          refine ⟨k + 1, by omega, by go_num, hs, ?_⟩
          intro i hi t ht
          by_cases e : i = k
          · subst e
            rw [HD.out] at ht
            cases ht
            exact HPV.out
          · exact HP.out i (by omega) t ht
        case measure => simp [intOf]; omega
set_option maxRecDepth 100000 in
set_option maxHeartbeats 4000000 in
theorem containsD {bb oo n c : Nat} {l : List DealIn} (hn : l.length = n) (hm : n ≤ 100000) (hz : ∀ d ∈ l, d.v.size ≤ 9223372036854775807 ∧ d.p.size ≤ 9223372036854775807 ∧ d.b.size ≤ 9223372036854775807) :
    RetI (fun w => Row w (some ⟨bb, oo, none⟩) (dflat l)) 61 #[.slice (some ⟨bb, oo, none⟩) n c, .func (.func 62) #[] #[]] (.bool (l.any bigD)) := by
  intro w hg hi
  have hs := St.refl hg
  have K := indexD (bb := bb) (oo := oo) (c := c) hn hm hz
  have e := idxG_any bigD l
  generalize idxG bigD l = r at *
  generalize l.any bigD = v at *
  have Hi := Lib.hid hi
  clear hn hi hz
  go_enter Tryz.func61, Tryz.ntmps61
  go_wp2_with fail
  refine K.step hs Hi.out ?_
  intro w1 hs _
  go_wp2_with fail
  go_ret
  exact ⟨rfl, hs.2⟩
set_option maxRecDepth 100000 in
set_option maxHeartbeats 4000000 in
theorem many_any {bb oo n c : Nat} {l : List DealIn} (hn : l.length = n) (hm : n ≤ 9223372036854775807) (hz : ∀ d ∈ l, d.v.size ≤ 9223372036854775807 ∧ d.p.size ≤ 9223372036854775807 ∧ d.b.size ≤ 9223372036854775807) :
    RetI (fun w => Row w (some ⟨bb, oo, none⟩) (dflat l)) 14 #[.slice (some ⟨bb, oo, none⟩) n c] (.bool (if (6 < n ∧ n ≤ 400) ∨ 402 < n then true else l.any bigD)) := by
  intro w hg hi
  have hs := St.refl hg
  have Hi := Lib.hid hi
  by_cases h6 : 6 < n
  · have q6 : decide ((6 : Int) < (n : Int)) = true := decide_eq_true (by omega)
    have q6n : decide (6 < n) = true := decide_eq_true h6
    by_cases h4 : n ≤ 400
    · have q4 : decide ((n : Int) ≤ 400) = true := decide_eq_true (by omega)
      have q4n : decide (n ≤ 400) = true := decide_eq_true h4
      rw [if_pos (.inl ⟨h6, h4⟩)]
      clear hi hn hz
      go_enter Tryz.func14, Tryz.ntmps14
      go_wp2_with fail
      go_ret
      exact ⟨rfl, hs.2⟩
    · have q4 : decide ((n : Int) ≤ 400) = false := decide_eq_false (by omega)
      have q4n : decide (n ≤ 400) = false := decide_eq_false h4
      by_cases h2 : 402 < n
      · have q2 : decide ((402 : Int) < (n : Int)) = true := decide_eq_true (by omega)
        have q2n : decide (402 < n) = true := decide_eq_true h2
        rw [if_pos (.inr h2)]
        clear hi hn hz
        go_enter Tryz.func14, Tryz.ntmps14
        go_wp2_with fail
        go_ret
        exact ⟨rfl, hs.2⟩
      · have q2 : decide ((402 : Int) < (n : Int)) = false := decide_eq_false (by omega)
        have q2n : decide (402 < n) = false := decide_eq_false h2
        rw [if_neg (by omega)]
        have K := containsD (bb := bb) (oo := oo) (c := c) hn (by omega) hz
        generalize l.any bigD = v at *
        clear hi hn hz
        go_enter Tryz.func14, Tryz.ntmps14
        go_wp2_with fail
        refine K.step hs Hi.out ?_
        intro w1 hs _
        go_wp2_with fail
        go_ret
        exact ⟨rfl, hs.2⟩
  · have q6 : decide ((6 : Int) < (n : Int)) = false := decide_eq_false (by omega)
    have q6n : decide (6 < n) = false := decide_eq_false h6
    have q2 : decide ((402 : Int) < (n : Int)) = false := decide_eq_false (by omega)
    have q2n : decide (402 < n) = false := decide_eq_false (by omega)
    rw [if_neg (by omega)]
    have K := containsD (bb := bb) (oo := oo) (c := c) hn (by omega) hz
    generalize l.any bigD = v at *
    clear hi hn hz
    go_enter Tryz.func14, Tryz.ntmps14
    go_wp2_with fail
    refine K.step hs Hi.out ?_
    intro w1 hs _
    go_wp2_with fail
    go_ret
    exact ⟨rfl, hs.2⟩
end Go.Proofs.YtndkglmokhndnaaGreatDoor
