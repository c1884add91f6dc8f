/- Attribution: the contract of Drift for any sectors; the sectors of the next period, step by step. Conditions: up to five sectors with numbers of bounded length, or more than 32. Attribution: the walk of AttributionDrift: for every input it returns true. Condition: the library's table and error lie as the program's text lays them. -/
import Derived.Test.YtndkglmokhndnaaGreatDoorDr2
import Derived.Test.YtndkglmokhndnaaGreatDoorSw
import Derived.Test.YtndkglmokhndnaaGreatDoorAt8
namespace Go.Proofs.YtndkglmokhndnaaGreatDoor
open Go.RowKit Go.Shelf Dec QQ

set_option maxRecDepth 100000 in
set_option maxHeartbeats 4000000 in
theorem Drift_any {A : Option Addr} {n c k0 : Nat} {l : List SecS} (hn : l.length = n) (hl : 32 < n ∨ FewS k0 l) (hc : n ≤ c) (w : World) (hg : Gl w) (hr : Row w A (flatG scells l)) :
    Calls Tryz.prog 30 #[.slice A n c] w fun e w' => ∃ v, e = .returned (.tuple #[v, .int .i64 (driE l)]) ∧ OutG scells 54 9 w.heap.size w' v (driR l).length (driR l) ∧ Below w.heap.size w w' := by
  by_cases he : chkS l = 0
  · have hf : FewS k0 l := by
      rcases hl with h | h
      · have := (chkS_iff.1 he).few; omega
      · exact h
    exact drift_few hn hf hc he w hg hr
  · have e1 : driE l = chkS l := if_pos he
    have e2 : driR l = [] := by unfold driR; rw [e1, if_neg he]
    rw [e1, e2]
    have hs := St.refl hg
    have Hr := Lib.hid hr
    have K1 := scheck_any (A := A) hn hl hc
    have q : (chkS l != 0) = true := by simpa using he
    generalize chkS l = ch at *
    clear hn hl hc he hr e1 e2
    go_enter Tryz.func30, Tryz.ntmps30
    go_wp2_with fail
    refine K1.step hs Hr.out ?_
    intro w1 hs _
    go_wp2_with fail
    go_ret2
    exact ⟨_, rfl, ⟨rfl, World.ownsRow_nil _ _ _ _⟩, hs.2⟩
/-- the sector of the next period -/
def nxS (a b : SecS) : SecS := ⟨a.nm, a.wn, a.wd, b.rn, b.rd, a.vn, a.vd, b.bn, b.bd⟩
/-- the first i sectors are those of the next period -/
def nextTo (x m : List SecS) (i : Nat) : List SecS := (nextL x m).take i ++ x.drop i
theorem nextTo_zero (x m : List SecS) : nextTo x m 0 = x := by simp [nextTo]
theorem nextTo_end {x m : List SecS} (h : x.length ≤ m.length) : nextTo x m x.length = nextL x m := by
  unfold nextTo
  rw [List.take_of_length_le (by rw [nextL_len h]; omega), List.drop_of_length_le (by omega), List.append_nil]
theorem zip_at {α β : Type} {x : List α} {m : List β} {i : Nat} {a : α} {b : β} (ha : x[i]? = some a) (hb : m[i]? = some b) : (x.zip m)[i]? = some (a, b) := List.getElem?_zip_eq_some.2 ⟨ha, hb⟩
theorem nextL_at {x m : List SecS} {i : Nat} {a b : SecS} (ha : x[i]? = some a) (hb : m[i]? = some b) : (nextL x m)[i]? = some (nxS a b) := by
  unfold nextL
  rw [List.getElem?_map, zip_at ha hb]
  rfl
theorem take_len {x m : List SecS} {i : Nat} {a : SecS} (h : x.length ≤ m.length) (ha : x[i]? = some a) : ((nextL x m).take i).length = i := by
  have := (List.getElem?_eq_some_iff.1 ha).1
  rw [List.length_take, nextL_len h]
  omega
theorem drop_at {x : List SecS} {i : Nat} {a : SecS} (ha : x[i]? = some a) : x.drop i = a :: x.drop (i + 1) := by
  obtain ⟨hi, rfl⟩ := List.getElem?_eq_some_iff.1 ha
  exact List.drop_eq_getElem_cons hi
theorem nextTo_at {x m : List SecS} {i : Nat} {a : SecS} (h : x.length ≤ m.length) (ha : x[i]? = some a) : (nextTo x m i)[i]? = some a := by
  unfold nextTo
  rw [List.getElem?_append_right (by rw [take_len h ha]; omega), take_len h ha, Nat.sub_self, drop_at ha]
  rfl
theorem nextTo_succ {x m : List SecS} {i : Nat} {a b : SecS} (h : x.length ≤ m.length) (ha : x[i]? = some a) (hb : m[i]? = some b) : nextTo x m (i + 1) = (nextTo x m i).set i (nxS a b) := by
  unfold nextTo
  rw [List.take_add_one, nextL_at ha hb, drop_at ha, List.set_append_right _ _ (by rw [take_len h ha]; omega), take_len h ha, Nat.sub_self]
  simp
theorem set_same {xs : List Value} {p : Nat} {v : Value} (h : xs[p]? = some v) : xs.set p v = xs := by
  apply List.ext_getElem?
  intro j
  by_cases e : p = j
  · subst e
    have hp := (List.getElem?_eq_some_iff.1 h).1
    rw [List.getElem?_set_self hp, h]
  · rw [List.getElem?_set_ne e]
/-- the four cells of the two returns -/
theorem flat_next {l : List SecS} {i : Nat} {a b : SecS} (ha : l[i]? = some a) : flatG scells (l.set i (nxS a b)) = ((((flatG scells l).set (i * 9 + 3) (.string b.rn)).set (i * 9 + 4) (.string b.rd)).set (i * 9 + 7) (.string b.bn)).set (i * 9 + 8) (.string b.bd) := by
  have hi := (List.getElem?_eq_some_iff.1 ha).1
  have hx : ∀ j v, (scells a)[j]? = some v → (flatG scells l)[i * 9 + j]? = some v := fun j v h => flatG_at scells_len ha h
  rw [flatG_set scells_len l i (nxS a b) hi]
  generalize flatG scells l = xs at *
  show ((((((((xs.set (i * 9) (.string a.nm)).set (i * 9 + 1) (.string a.wn)).set (i * 9 + 2) (.string a.wd)).set (i * 9 + 3) (.string b.rn)).set (i * 9 + 4) (.string b.rd)).set (i * 9 + 5) (.string a.vn)).set (i * 9 + 6) (.string a.vd)).set (i * 9 + 7) (.string b.bn)).set (i * 9 + 8) (.string b.bd) = _
  rw [set_same (p := i * 9) (hx 0 _ rfl), set_same (hx 1 _ rfl), set_same (hx 2 _ rfl)]
  rw [set_same (p := i * 9 + 5) (by rw [List.getElem?_set_ne (by omega), List.getElem?_set_ne (by omega)]; exact hx 5 _ rfl)]
  rw [set_same (p := i * 9 + 6) (by rw [List.getElem?_set_ne (by omega), List.getElem?_set_ne (by omega)]; exact hx 6 _ rfl)]
/-- the sizes of the sectors of the next period -/
theorem few_next {k k' : Nat} {x m : List SecS} (hx : FewS k x) (hm : FewS k' m) (h : x.length ≤ m.length) (hk : k' ≤ k) : FewS k (nextL x m) := by
  refine ⟨by rw [nextL_len h]; exact hx.1, hx.2.1, hx.2.2.1, fun s hs => ?_⟩
  obtain ⟨p, hp, rfl⟩ := List.mem_map.1 hs
  have h1 := hx.2.2.2 p.1 (List.of_mem_zip hp).1
  have h2 := hm.2.2.2 p.2 (List.of_mem_zip hp).2
  unfold SecS.le at *
  dsimp only
  omega
theorem few_drift {k : Nat} {l : List SecS} (h : FewS k l) (hk : k ≤ 100) : FewS (12 * k + 19) (driftL l) := by
  refine ⟨by rw [driftL_len]; exact h.1, by omega, by omega, fun s hs => ?_⟩
  obtain ⟨a, ha, rfl⟩ := List.mem_map.1 hs
  have g := h.grow ha
  have q := h.growths
  exact mkS_le (k := 12 * k + 18) (h.2.2.2 a ha).1 ((g.2.2.1.div q.1).mono (by omega)) (FitQ.zero (by omega)) ((g.2.2.2.div q.2).mono (by omega)) (FitQ.zero (by omega))
/-- the growth without trading, up to sector i -/
def wantQ (l m : List SecS) (i : Nat) : Rat := sumQ (fun p : SecS × SecS => p.1.w * ((1 + p.1.r) * (1 + p.2.r))) ((l.zip m).take i)
theorem want_step {l m : List SecS} {i : Nat} {a b : SecS} (ha : l[i]? = some a) (hb : m[i]? = some b) : wantQ l m (i + 1) = wantQ l m i + a.w * ((1 + a.r) * (1 + b.r)) := sumQ_take (f := fun p : SecS × SecS => p.1.w * ((1 + p.1.r) * (1 + p.2.r))) (zip_at ha hb)
theorem want_end {l m : List SecS} (h : OkS l) (h1 : ownG l ≠ 0) (hm : l.length ≤ m.length) : wantQ l m l.length = (1 + ownQ l) * (1 + ownQ (nextL (driftL l) m)) := by
  rw [drift_law h h1 hm]
  unfold wantQ
  rw [List.take_of_length_le (by rw [List.length_zip]; omega)]
theorem want_fit {k k' : Nat} {l m : List SecS} (hl : FewS k l) (hm : FewS k' m) (hk : k' ≤ k) (i : Nat) : FitQ (5 * (3 * k + 5) + 1) (wantQ l m i) := by
  refine FitQ.sum_take (k := 3 * k + 4) (n := 5) (fun p hp => ?_) (by rw [List.length_zip]; have := hl.1; omega) (by omega) i
  have h1 := hl.fit (List.of_mem_zip hp).1
  have g1 := hl.grow (List.of_mem_zip hp).1
  have g2 := hm.grow (List.of_mem_zip hp).2
  exact (h1.1.mul (g1.1.mul g2.1)).mono (by omega)
end Go.Proofs.YtndkglmokhndnaaGreatDoor
namespace Go.Proofs.YtndkglmokhndnaaGreatDoor
open Go.RowKit Go.Shelf Dec QQ

theorem OutG.slice8 {α : Type} {cs : α → List Value} {T : TypeId} {m base n : Nat} {w : World} {v : Value} {xs : List α} (h : OutG cs T m base w v n xs) (h0 : 0 < n) : ∃ g cap, v = .slice (some ⟨g, 0, none⟩) n cap ∧ base ≤ g ∧ g < w.heap.size ∧ n ≤ cap ∧ ∀ j, w.frozen? ⟨g, j, none⟩ = false := by
  rcases h.2.2 with ⟨_, h1⟩ | ⟨g, cap, cur, rfl, hb, hg, hn, _⟩
  · omega
  · exact ⟨g, cap, rfl, hb, (Array.getElem?_eq_some_iff.1 hg).1, hn, fun j => by simp [World.frozen?, hg]⟩
theorem OutG.row8 {α : Type} {cs : α → List Value} {T : TypeId} {m base n cap g : Nat} {w : World} {xs : List α} (h : OutG cs T m base w (.slice (some ⟨g, 0, none⟩) n cap) n xs) : Row w (some ⟨g, 0, none⟩) (flatG cs xs) := by
  obtain ⟨A, c, e, hr⟩ := h.row
  injection e with e1 e2 e3
  subst e1
  exact hr
set_option maxRecDepth 100000 in
set_option maxHeartbeats 4000000 in
theorem drift48_any {A A' : Option Addr} {n c n' c' : Nat} {l m : List SecS} (w : World) (hn : l.length = n) (hc : n ≤ c) (hm : n ≤ 9223372036854775807) (hz : ∀ s ∈ l, s.big) (hr : Row w A (flatG scells l)) (hn' : m.length = n') (hc' : n' ≤ c') (hm' : n' ≤ 9223372036854775807) (hz' : ∀ s ∈ m, s.big) (hr' : Row w A' (flatG scells m)) (hg : Gl w) :
    Calls Tryz.prog 6 #[.slice A n c, .slice A' n' c'] w fun e w' => e = .returned (.bool true) ∧ Below w.heap.size w w' := by
  have hs := St.refl hg
  have AW := awake48
  have KG := great48 (A := A) (c := c) hn hm hz
  have KG' := great48 (A := A') (c := c') hn' hm' hz'
  have HR := Lib.hid hr
  have HR' := Lib.hid hr'
  obtain ⟨t, ht⟩ : ∃ t, greatB l = t := ⟨_, rfl⟩
  rw [ht] at KG
  cases t with
  | true =>
    clear ht hn hm hz hr hc hn' hm' hz' hr' hc'
    go_enter Tryz.func6, Tryz.ntmps6
    go_wp2_with fail
    refine KG.step hs HR.out ?_
    intro w1 hs _
    go_wp2_with fail
    refine AW.step hs ?_
    intro wa hs _
    go_wp2_with fail
    go_ret
    exact ⟨rfl, hs.2⟩
  | false =>
    obtain ⟨t', ht'⟩ : ∃ t, greatB m = t := ⟨_, rfl⟩
    rw [ht'] at KG'
    cases t' with
    | true =>
      clear ht hn hm hz hr hc hn' hm' hz' hr' hc'
      go_enter Tryz.func6, Tryz.ntmps6
      go_wp2_with fail
      refine KG.step hs HR.out ?_
      intro w1 hs _
      go_wp2_with fail
      refine KG'.step hs (HR'.out.on hs.2) ?_
      intro w2 hs _
      go_wp2_with fail
      refine AW.step hs ?_
      intro wa hs _
      go_wp2_with fail
      go_ret
      exact ⟨rfl, hs.2⟩
    | false =>
      have hl : 32 < n ∨ FewS 12 l := by have := greatB_not ht; rwa [hn] at this
      have hl' : 32 < n' ∨ FewS 12 m := by have := greatB_not ht'; rwa [hn'] at this
      have KD := Lib.hid (fun w hg hr => Drift_any (A := A) hn hl hc w hg hr)
      by_cases hE : driE l = 0
      · obtain ⟨hok, h1, h2⟩ := driE_ok.1 hE
        have hf : FewS 12 l := by
          rcases hl with h | h
          · have := hok.few; omega
          · exact h
        have e2 : driR l = driftL l := if_pos hE
        have hp : 0 < n := by have := hok.pos; omega
        have h5 : n ≤ 5 := by have := hf.1; omega
        rw [hE, e2, driftL_len, hn] at KD
        have hdl : (driftL l).length = n := by rw [driftL_len]; exact hn
        have hdo := drift_ok hok h1 h2
        have hdf := few_drift hf (by omega)
        have KC := Lib.hid (fun A c (hc : n ≤ c) => scheck_any (A := A) (c := c) hdl (.inr hdf) hc)
        rw [chkS_iff.2 hdo] at KC
        have KC' := scheck_any (A := A') hn' hl' hc'
        have q0 : ((n : Int) != (n : Int)) = false := by simp
        have q0' : ((n : Int) == (n : Int)) = true := by simp
        by_cases hlt : n' < n
        · have q : decide ((n' : Int) < (n : Int)) = true := decide_eq_true (by omega)
          have qn : decide (n' < n) = true := decide_eq_true hlt
          clear ht hn hm hz hr hn' hm' hz' hr' hc' ht' hE hok h1 h2 hf e2 hdo hdf hl hl' hlt hc h5
          go_enter Tryz.func6, Tryz.ntmps6
          go_wp2_with fail
          refine KG.step hs HR.out ?_
          intro w1 hs _
          go_wp2_with fail
          refine KG'.step hs (HR'.out.on hs.2) ?_
          intro w2 hs _
          go_wp2_with fail
          refine (KD.out _ hs.gl (HR.out.on hs.2)).mono ?_
          rintro e w3 ⟨v, rfl, ho, hb3⟩
          obtain ⟨g, cap, rfl, _, _, hcap, _⟩ := ho.slice8 hp
          replace hs := hs.on hb3
          have HX := Lib.hid ho.row8
          have KC2 := KC.out (some ⟨g, 0, none⟩) cap hcap
          clear ho hb3 KC KD
          go_wp2_with fail
          refine KC2.step hs HX.out ?_
          intro w4 hs hb4
          have HX4 := Lib.hid (HX.out.on hb4)
          go_wp2_with fail
          refine KC2.step hs HX4.out ?_
          intro w5 hs _
          go_wp2_with fail
          refine AW.step hs ?_
          intro wa hs _
          go_wp2_with fail
          go_ret
          exact ⟨rfl, hs.2⟩
        · have q : decide ((n' : Int) < (n : Int)) = false := decide_eq_false (by omega)
          have qn : decide (n' < n) = false := decide_eq_false hlt
          by_cases hE' : chkS m = 0
          · rw [hE'] at KC'
            have hf' : FewS 12 m := by
              rcases hl' with h | h
              · have := (chkS_iff.1 hE').few; omega
              · exact h
            have hlm : l.length ≤ m.length := by omega
            have hlm2 : (driftL l).length ≤ m.length := by omega
            have hno := next_ok hdo (chkS_iff.1 hE') hlm2
            have hnf := few_next (k := 12 * 12 + 19) hdf hf' hlm2 (by omega)
            have hnl : (nextL (driftL l) m).length = n := by rw [nextL_len hlm2]; exact hdl
            have KR := Return_any (A := A) hn hl hc
            have KN := Lib.hid (fun A c (hc : n ≤ c) => Return_any (A := A) (c := c) hnl (.inr hnf) hc)
            have e3 : chkS l = 0 := chkS_iff.2 hok
            have e4 : chkS (nextL (driftL l) m) = 0 := chkS_iff.2 hno
            rw [show retOwn l = ownQ l from if_pos e3, show retBen l = benQ l from if_pos e3, e3] at KR
            rw [show retOwn (nextL (driftL l) m) = ownQ (nextL (driftL l) m) from if_pos e4, show retBen (nextL (driftL l) m) = benQ (nextL (driftL l) m) from if_pos e4, e4] at KN
            have HWE : Hid (wantQ l m n = (1 + ownQ l) * (1 + ownQ (nextL (driftL l) m))) := by show _ = _; rw [← hn]; exact want_end hok h1 hlm
            have HQ1 := hf.q.2.2.1
            have HQ2 := hnf.q.2.2.1
            have f1 : FitQ 130 (1 + ownQ l) := ((FitQ.one (Nat.le_refl 1)).add HQ1).mono (by omega)
            have f2 : FitQ 1640 (1 + ownQ (nextL (driftL l) m)) := ((FitQ.one (Nat.le_refl 1)).add HQ2).mono (by omega)
            have KO1 := AddF (Vq.fr (FitQ.one (Nat.le_refl 1)) (by decide)) (Vq.fr HQ1 (by omega))
            have KO2 := AddF (Vq.fr (FitQ.one (Nat.le_refl 1)) (by decide)) (Vq.fr HQ2 (by omega))
            have KOM := MulF (Vq.fr f1 (by omega)) (Vq.fr f2 (by omega))
            rw [← HWE.out] at KOM
            have KON := OfF (a := ⟨#[49]⟩) (x := 1) ⟨one_val, by decide⟩ (by decide)
            rw [show ((1 : Int) : Rat) = 1 from rfl] at KON
            have HF := Lib.hid hf
            have HF' := Lib.hid hf'
            have HD : Hid ((driftL l).length ≤ m.length ∧ (∀ (i : Nat) (a b : SecS), (driftL l)[i]? = some a → m[i]? = some b → nextTo (driftL l) m (i + 1) = (nextTo (driftL l) m i).set i (nxS a b)) ∧ (∀ (i : Nat) (a : SecS), (driftL l)[i]? = some a → (nextTo (driftL l) m i)[i]? = some a) ∧ nextTo (driftL l) m 0 = driftL l ∧ nextTo (driftL l) m n = nextL (driftL l) m ∧ (driftL l).length = n) :=
              ⟨hlm2, fun i a b ha hb => nextTo_succ hlm2 ha hb, fun i a ha => nextTo_at hlm2 ha, nextTo_zero _ _, by rw [← hdl]; exact nextTo_end hlm2, hdl⟩
            have KL := Lib.hid (fun A c w hr => cloneS (A := A) (c := c) (l := driftL l) hdl (by omega) w hr)
            clear f1 f2 HQ1 HQ2 HWE e3 e4 hno hnf hnl hdo hdf hE hok h1 h2 e2 ht ht' hE' hlm hlm2 hf hf' hdl
            have HN := Lib.hid hn
            have HN' := Lib.hid hn'
            clear hn hn' hr hr' hz hz' hm hm' hl hl' hc hc'
            generalize nextL (driftL l) m = NL at *
            generalize driftL l = DL at *
            unfold FR at KR KN KO1 KO2 KOM KON
            unfold FV at KO1 KO2 KOM
            generalize frN (ownQ l) = rn at *
            generalize frD (ownQ l) = rd at *
            generalize frN (benQ l) = bn at *
            generalize frD (benQ l) = bd at *
            generalize frN (ownQ NL) = sn at *
            generalize frD (ownQ NL) = sd at *
            generalize frN (benQ NL) = tn at *
            generalize frD (benQ NL) = td at *
            generalize frN (1 + ownQ l) = pn at *
            generalize frD (1 + ownQ l) = pd at *
            generalize frN (1 + ownQ NL) = un at *
            generalize frD (1 + ownQ NL) = ud at *
            have HONE : Hid (Vq (frN 1) (frD 1) 1) := Vq.fr (FitQ.one (Nat.le_refl 1)) (by decide)
            generalize frN 1 = on at *
            generalize frD 1 = od at *
            go_enter Tryz.func6, Tryz.ntmps6
            go_wp2_with fail
            refine KG.step hs HR.out ?_
            intro w1 hs _
            go_wp2_with fail
            refine KG'.step hs (HR'.out.on hs.2) ?_
            intro w2 hs _
            go_wp2_with fail
            refine (KD.out _ hs.gl (HR.out.on hs.2)).mono ?_
            rintro e w3 ⟨v, rfl, ho, hb3⟩
            obtain ⟨g, cap, rfl, _, _, hcap, _⟩ := ho.slice8 hp
            replace hs := hs.on hb3
            have HX := Lib.hid ho.row8
            have KC2 := KC.out (some ⟨g, 0, none⟩) cap hcap
            clear ho hb3 KC KD
            go_wp2_with fail
            refine KC2.step hs HX.out ?_
            intro w4 hs hb4
            have HX4 := Lib.hid (HX.out.on hb4)
            clear HX hb4
            go_wp2_with fail
            refine KC'.step hs (HR'.out.on hs.2) ?_
            intro w5 hs hb5
            have HX5 := Lib.hid (HX4.out.on hb5)
            clear HX4 hb5
            go_wp2_with fail
            refine KON.step hs ?_
            intro w6 hs hb6
            have HX6 := Lib.hid (HX5.out.on hb6)
            clear HX5 hb6
            go_wp2_with fail
            have XO := Bx.new w6 #[.string on, .string od] 42
            have HX7 := Lib.hid (HX6.out.on ((Below.refl _ w6).alloc (Nat.le_refl _) (.cells #[.string on, .string od] 42)))
            replace hs := hs.alloc (.cells #[.string on, .string od] 42)
            obtain ⟨BS, hBS⟩ : ∃ b, (w6.alloc (.cells #[.string on, .string od] 42)).heap.size = b := ⟨_, rfl⟩
            have hsz0 : w.heap.size ≤ BS := by rw [← hBS]; exact hs.2.size
            have hoB : w6.heap.size < BS := by rw [← hBS]; exact XO.lt
            refine (KL.out _ _ _ HX7.out).mono ?_
            rintro e w7 ⟨v, rfl, ho, hb7⟩
            rw [hBS] at ho
            clear hBS
            obtain ⟨gn, cn, rfl, hgn, hgn2, hcn, _⟩ := ho.slice8 hp
            replace hs := hs.on hb7
            replace XO := XO.on hb7
            have HOW : Hid (World.ownsRow (w7.alloc (.cells #[.string ⟨#[]⟩, .string ⟨#[]⟩] 42)) BS 54 9 (.slice (some ⟨gn, 0, none⟩) n cn) n (flatG scells (nextTo DL m 0))) := by
              show World.ownsRow _ _ _ _ _ _ _
              rw [HD.out.2.2.2.1]
              exact World.ownsRow.alloc ho.2 _
            have HXO := Lib.hid (XO.alloc (.cells #[.string ⟨#[]⟩, .string ⟨#[]⟩] 42))
            have HXW : Hid (Bx (w7.alloc (.cells #[.string ⟨#[]⟩, .string ⟨#[]⟩] 42)) w7.heap.size #[.string (frN (wantQ l m 0)), .string (frD (wantQ l m 0))]) := by
              show Bx _ _ _
              rw [show wantQ l m 0 = 0 by unfold wantQ; rw [List.take_zero]; rfl, frN_zero, frD_zero]
              exact Bx.new _ _ _
            clear ho hb7 XO HX7 HX6
            go_wp2_with fail
            replace hs := hs.alloc (.cells #[.string ⟨#[]⟩, .string ⟨#[]⟩] 42)
            generalize w7.alloc (.cells #[.string ⟨#[]⟩, .string ⟨#[]⟩] 42) = w8 at *
            obtain ⟨bW, hbW⟩ : ∃ b, w7.heap.size = b := ⟨_, rfl⟩
            obtain ⟨bO, hbO⟩ : ∃ b, w6.heap.size = b := ⟨_, rfl⟩
            rw [hbW] at HXW hgn2 ⊢
            rw [hbO] at HXO hoB ⊢
            clear hbW hbO
            have hgw : w.heap.size ≤ gn := by omega
            go_loopw [79] (fun s wr => ∃ k : Nat, k ≤ n ∧ s = .int .i64 (k : Int) ∧ St w wr ∧ Hid (Bx wr bO #[.string on, .string od]) ∧ Hid (Bx wr bW #[.string (frN (wantQ l m k)), .string (frD (wantQ l m k))]) ∧ Hid (wr.ownsRow BS 54 9 (.slice (some ⟨gn, 0, none⟩) n cn) n (flatG scells (nextTo DL m k)))) (fun s _ => (n - intOf s).toNat)
            case atStart => exact ⟨0, by omega, rfl, hs, HXO, HXW, HOW⟩
            case round =>
              obtain ⟨k, hk, rfl, hs, HX1, HX2, HO⟩ := hrel
              by_cases hkn : k = n
              · subst hkn
                have q : decide ((k : Int) < (k : Int)) = false := decide_eq_false (by omega)
                have KN2 := KN.out (some ⟨gn, 0, none⟩) cn hcn
                have HRN : Hid (Row wr (some ⟨gn, 0, none⟩) (flatG scells NL)) := by
                  have hx : OutG scells 54 9 BS wr (.slice (some ⟨gn, 0, none⟩) k cn) k NL := ⟨by have := HO.out.1; rw [HD.out.2.2.2.2.1, flatG_len scells_len] at this; omega, by have := HO.out; rwa [HD.out.2.2.2.2.1] at this⟩
                  exact hx.row8
                have XO := HX1.out
                have XW := HX2.out
                generalize frN (wantQ l m k) = zn at *
                generalize frD (wantQ l m k) = zd at *
                clear HX1 HX2 HO KN KL HD
                go_wp2_with fail
                refine KR.step hs (HR.out.on hs.2) ?_
                intro v1 hs hc1
                replace XO := XO.on hc1
                replace XW := XW.on hc1
                have HRN1 := Lib.hid (HRN.out.on hc1)
                clear HRN
                go_wp2_with fail
                have XR := (Bx.new v1 #[.string rn, .string rd] 42).alloc (.cells #[.string bn, .string bd] 42)
                have hbl : Below v1.heap.size v1 ((v1.alloc (.cells #[.string rn, .string rd] 42)).alloc (.cells #[.string bn, .string bd] 42)) := ((Below.refl _ _).alloc (Nat.le_refl _) _).alloc (by simp) _
                replace XO := XO.on hbl
                replace XW := XW.on hbl
                have HRN2 := Lib.hid (HRN1.out.on hbl)
                replace hs := hs.on hbl
                refine KN2.step hs HRN2.out ?_
                intro v2 hs hc2
                replace XO := XO.on hc2
                replace XW := XW.on hc2
                replace XR := XR.on hc2
                clear HRN1 HRN2 hbl hc1 hc2
                go_wp2_with fail
                have XS := (Bx.new v2 #[.string sn, .string sd] 42).alloc (.cells #[.string tn, .string td] 42)
                have hbl : Below v2.heap.size v2 ((v2.alloc (.cells #[.string sn, .string sd] 42)).alloc (.cells #[.string tn, .string td] 42)) := ((Below.refl _ _).alloc (Nat.le_refl _) _).alloc (by simp) _
                replace XO := XO.on hbl
                replace XW := XW.on hbl
                replace XR := XR.on hbl
                replace hs := hs.on hbl
                clear hbl
                have k0 := XO.keeps (i := 0) (v := .string on) rfl
                have k1 := XO.keeps (i := 1) (v := .string od) rfl
                have k2 := XW.keeps (i := 0) (v := .string zn) rfl
                have k3 := XW.keeps (i := 1) (v := .string zd) rfl
                have k4 := XR.keeps (i := 0) (v := .string rn) rfl
                have k5 := XR.keeps (i := 1) (v := .string rd) rfl
                have k6 := XS.keeps (i := 0) (v := .string sn) rfl
                have k7 := XS.keeps (i := 1) (v := .string sd) rfl
                have eF := eqlF zn zd zn zd
                simp only [beq_self_eq_true, Bool.and_true] at eF
                clear XO XW XR XS
                refine wp_region_kept (by kernel_rfl) (by kernel_rfl) ?_
                repeat (go_big_quiet_step (first | (with_reducible exact KO1.kept hs) | (with_reducible exact KO2.kept hs) | (with_reducible exact KOM.kept hs) | (with_reducible exact AW.kept hs)))
                refine wpQuiet_nil ?_
                rintro _ ⟨u, rfl⟩
                go_wp2_with fail
                go_ret
                exact ⟨rfl, (hs.kept u).2⟩
              · have hkl : k < n := by omega
                have q : decide ((k : Int) < (n : Int)) = true := decide_eq_true (by omega)
                have qn : decide (k < n) = true := decide_eq_true hkl
                have hkl' : k < n' := by omega
                have qk' : decide ((k : Int) < (n' : Int)) = true := decide_eq_true (by omega)
                have qkn' : decide (k < n') = true := decide_eq_true hkl'
                obtain ⟨a, ha⟩ : ∃ d, l[k]? = some d := ⟨l[k]'(by rw [HN.out]; exact hkl), by simp⟩
                obtain ⟨e, he⟩ : ∃ d, m[k]? = some d := ⟨m[k]'(by rw [HN'.out]; exact hkl'), by simp⟩
                obtain ⟨d, hd⟩ : ∃ d, DL[k]? = some d := ⟨DL[k]'(by rw [HD.out.2.2.2.2.2]; exact hkl), by simp⟩
                obtain ⟨b, o, hA, hb, hca⟩ := row_at (cs := scells) (m := 9) scells_len (by decide) HR.out ha
                obtain ⟨b', o', hA', hb', hcm⟩ := row_at (cs := scells) (m := 9) scells_len (by decide) HR'.out he
                have HNX : Hid (flatG scells (nextTo DL m (k + 1)) = ((((flatG scells (nextTo DL m k)).set (k * 9 + 3) (.string e.rn)).set (k * 9 + 4) (.string e.rd)).set (k * 9 + 7) (.string e.bn)).set (k * 9 + 8) (.string e.bd)) := by
                  show _ = _
                  rw [HD.out.2.1 k d e hd he]
                  exact flat_next (HD.out.2.2.1 k d hd)
                have hzd : ∀ t v, (scells d)[t]? = some v → wr.cell? ⟨gn, k * 9 + t, none⟩ = some v := by
                  have hxo : OutG scells 54 9 BS wr (.slice (some ⟨gn, 0, none⟩) n cn) n (nextTo DL m k) := ⟨by have := HO.out.1; rw [flatG_len scells_len] at this; omega, HO.out⟩
                  obtain ⟨b2, o2, hA2, _, hc2⟩ := row_at (cs := scells) (m := 9) scells_len (by decide) hxo.row8 (HD.out.2.2.1 k d hd)
                  injection hA2 with hA2
                  injection hA2 with h1 h2
                  subst h1 h2
                  intro t v hv
                  have := hc2 t v hv
                  rwa [Nat.zero_add] at this
                have hfz : ∀ j, wr.frozen? ⟨gn, j, none⟩ = false := by
                  rcases HO.out.2 with ⟨h1, _⟩ | ⟨g2, cap2, cur2, h1, _, h3, _⟩
                  · cases h1
                  · injection h1 with h1
                    injection h1 with h1
                    injection h1 with h1
                    subst h1
                    intro j
                    simp [World.frozen?, h3]
                have fa := HF.out.fit (List.mem_of_getElem? ha)
                have fe := HF'.out.fit (List.mem_of_getElem? he)
                have ga := HF.out.grow (List.mem_of_getElem? ha)
                have ge := HF'.out.grow (List.mem_of_getElem? he)
                have za := HF.out.2.2.2 a (List.mem_of_getElem? ha)
                have ze := HF'.out.2.2.2 e (List.mem_of_getElem? he)
                unfold SecS.le at za ze
                have KA1 := AddF HONE.out (Vq.arg (n := a.rn) (d := a.rd) (by omega) (by omega))
                change Ret _ _ (FR (1 + a.r)) at KA1
                have KA2 := AddF HONE.out (Vq.arg (n := e.rn) (d := e.rd) (by omega) (by omega))
                change Ret _ _ (FR (1 + e.r)) at KA2
                have KM := MulF (Vq.fr ga.1 (by omega)) (Vq.fr ge.1 (by omega))
                have KM2 := MulF (Vq.arg (n := a.wn) (d := a.wd) (by omega) (by omega)) (Vq.fr (ga.1.mul ge.1) (by omega))
                change Ret _ _ (FR (a.w * ((1 + a.r) * (1 + e.r)))) at KM2
                have KAW := AddF (Vq.fr (want_fit HF.out HF'.out (Nat.le_refl _) k) (by omega)) (Vq.fr (fa.1.mul (ga.1.mul ge.1)) (by omega))
                change Ret _ #[FV _ _, FV (frN (a.w * ((1 + a.r) * (1 + e.r)))) (frD (a.w * ((1 + a.r) * (1 + e.r))))] (FR (wantQ l m k + a.w * ((1 + a.r) * (1 + e.r)))) at KAW
                rw [← want_step ha he] at KAW
                unfold FR at KA1 KA2 KM KM2 KAW
                unfold FV at KA1 KA2 KM KM2 KAW
                obtain ⟨xn, hxn⟩ : ∃ x, frN (wantQ l m (k + 1)) = x := ⟨_, rfl⟩
                obtain ⟨xd, hxd⟩ : ∃ x, frD (wantQ l m (k + 1)) = x := ⟨_, rfl⟩
                have HXN := Lib.hid hxn
                have HXD := Lib.hid hxd
                rw [hxn, hxd] at KAW
                clear hxn hxd fa fe ga ge za ze ha he hd
                generalize frN (1 + a.r) = g1 at *
                generalize frD (1 + a.r) = g2 at *
                generalize frN (1 + e.r) = g3 at *
                generalize frD (1 + e.r) = g4 at *
                generalize frN ((1 + a.r) * (1 + e.r)) = g5 at *
                generalize frD ((1 + a.r) * (1 + e.r)) = g6 at *
                generalize frN (a.w * ((1 + a.r) * (1 + e.r))) = g7 at *
                generalize frD (a.w * ((1 + a.r) * (1 + e.r))) = g8 at *
                have XO := HX1.out
                have XW := HX2.out
                generalize frN (wantQ l m k) = zn at *
                generalize frD (wantQ l m k) = zd at *
                obtain ⟨a0, a1, a2, a3, a4, a5, a6, a7, a8⟩ := a
                obtain ⟨e0, e1, e2, e3, e4, e5, e6, e7, e8⟩ := e
                obtain ⟨d0, d1, d2, d3, d4, d5, d6, d7, d8⟩ := d
                dsimp only at KA1 KA2 KM2 HNX
                subst hA hA'
                have yk : ∀ t v, (scells ⟨e0, e1, e2, e3, e4, e5, e6, e7, e8⟩)[t]? = some v → wr.cell? ⟨b', o' + k * 9 + t, none⟩ = some v := fun t v h => by
                  have := (hs.2.cell (p := ⟨b', o' + (k * 9 + t), none⟩) hb').trans (hcm t v h)
                  rwa [show o' + (k * 9 + t) = o' + k * 9 + t by omega] at this
                have zk : ∀ t v, (scells ⟨d0, d1, d2, d3, d4, d5, d6, d7, d8⟩)[t]? = some v → wr.cell? ⟨gn, k * 9 + t, none⟩ = some v := hzd
                have y3 : wr.cell? ⟨b', o' + k * 9 + 3, none⟩ = some (.string e3) := yk 3 _ rfl
                have y4 : wr.cell? ⟨b', o' + k * 9 + 4, none⟩ = some (.string e4) := yk 4 _ rfl
                have y7 : wr.cell? ⟨b', o' + k * 9 + 7, none⟩ = some (.string e7) := yk 7 _ rfl
                have y8 : wr.cell? ⟨b', o' + k * 9 + 8, none⟩ = some (.string e8) := yk 8 _ rfl
                have z3 : wr.cell? ⟨gn, k * 9 + 3, none⟩ = some (.string d3) := zk 3 _ rfl
                have z4 : wr.cell? ⟨gn, k * 9 + 4, none⟩ = some (.string d4) := zk 4 _ rfl
                have z7 : wr.cell? ⟨gn, k * 9 + 7, none⟩ = some (.string d7) := zk 7 _ rfl
                have z8 : wr.cell? ⟨gn, k * 9 + 8, none⟩ = some (.string d8) := zk 8 _ rfl
                clear yk zk hzd HX1 HX2
                go_wp2_with fail
                go_region
                have ow1 := World.ownsRow.stored (World.ownsRow.stored (World.ownsRow.stored (World.ownsRow.stored HO.out (k * 9 + 3) (.string e3)).1 (k * 9 + 4) (.string e4)).1 (k * 9 + 7) (.string e7)).1 (k * 9 + 8) (.string e8)
                rw [← HNX.out] at ow1
                have hs1 : St w ((((wr.setCell ⟨gn, k * 9 + 3, none⟩ (.string e3)).setCell ⟨gn, k * 9 + 4, none⟩ (.string e4)).setCell ⟨gn, k * 9 + 7, none⟩ (.string e7)).setCell ⟨gn, k * 9 + 8, none⟩ (.string e8)).drew := ((((hs.set (b := gn) hgw _ _).set (b := gn) hgw _ _).set (b := gn) hgw _ _).set (b := gn) hgw _ _).drew
                have hgO : bO ≠ gn := by omega
                have hgW : bW ≠ gn := by omega
                replace XO : Bx ((((wr.setCell ⟨gn, k * 9 + 3, none⟩ (.string e3)).setCell ⟨gn, k * 9 + 4, none⟩ (.string e4)).setCell ⟨gn, k * 9 + 7, none⟩ (.string e7)).setCell ⟨gn, k * 9 + 8, none⟩ (.string e8)).drew bO #[.string on, .string od] := ((((XO.other hgO _ _).other hgO _ _).other hgO _ _).other hgO _ _).drew
                replace XW : Bx ((((wr.setCell ⟨gn, k * 9 + 3, none⟩ (.string e3)).setCell ⟨gn, k * 9 + 4, none⟩ (.string e4)).setCell ⟨gn, k * 9 + 7, none⟩ (.string e7)).setCell ⟨gn, k * 9 + 8, none⟩ (.string e8)).drew bW #[.string zn, .string zd] := ((((XW.other hgW _ _).other hgW _ _).other hgW _ _).other hgW _ _).drew
                obtain ⟨W1, hW1⟩ : ∃ W, W = ((((wr.setCell ⟨gn, k * 9 + 3, none⟩ (.string e3)).setCell ⟨gn, k * 9 + 4, none⟩ (.string e4)).setCell ⟨gn, k * 9 + 7, none⟩ (.string e7)).setCell ⟨gn, k * 9 + 8, none⟩ (.string e8)).drew := ⟨_, rfl⟩
                have HO1 : Hid (World.ownsRow W1 BS 54 9 (.slice (some ⟨gn, 0, none⟩) n cn) n (flatG scells (nextTo DL m (k + 1)))) := by
                  show World.ownsRow _ _ _ _ _ _ _
                  rw [hW1]
                  exact ow1.1
                rw [← hW1] at hs1 XO XW
                have hGW : ((((wr.setCell ⟨gn, k * 9 + 3, none⟩ (.string e3)).setCell ⟨gn, k * 9 + 4, none⟩ (.string e4)).setCell ⟨gn, k * 9 + 7, none⟩ (.string e7)).setCell ⟨gn, k * 9 + 8, none⟩ (.string e8)).drew = W1 := hW1.symm
                rw [hGW]
                clear ow1 hGW hW1 HO HNX hs y3 y4 y7 y8 z3 z4 z7 z8 hfz
                have lO := XO.lt
                have lW := XW.lt
                have hbA : ∀ t v, (scells ⟨a0, a1, a2, a3, a4, a5, a6, a7, a8⟩)[t]? = some v → W1.cell? ⟨b, o + k * 9 + t, none⟩ = some v := fun t v h => by
                  have := (hs1.2.cell (p := ⟨b, o + (k * 9 + t), none⟩) hb).trans (hca t v h)
                  rwa [show o + (k * 9 + t) = o + k * 9 + t by omega] at this
                have hbE : ∀ t v, (scells ⟨e0, e1, e2, e3, e4, e5, e6, e7, e8⟩)[t]? = some v → W1.cell? ⟨b', o' + k * 9 + t, none⟩ = some v := fun t v h => by
                  have := (hs1.2.cell (p := ⟨b', o' + (k * 9 + t), none⟩) hb').trans (hcm t v h)
                  rwa [show o' + (k * 9 + t) = o' + k * 9 + t by omega] at this
                have hb1 : b < W1.heap.size := Nat.lt_of_lt_of_le hb hs1.2.size
                have hb1' : b' < W1.heap.size := Nat.lt_of_lt_of_le hb' hs1.2.size
                clear hca hcm
                go_wp2_with fail
                refine wp_region_fresh1 16 15 11 #[.string ⟨#[]⟩, .string ⟨#[]⟩] (by kernel_rfl) (by kernel_rfl) (by kernel_rfl) (by omega) rfl (by kernel_rfl) ⟨_, 11, _, rfl, rfl, rfl, fun _ _ => by simp [execOp, go_sem, ptrTo]; rfl⟩ ?_
                apply Exists.intro
                refine ⟨fun S W hne hk hcl => ?_, ?_⟩
                · simp only [List.take_succ_cons, List.take_zero, quietL, List.mem_cons, List.not_mem_nil, or_false, Nat.reduceAdd, Nat.reduceEqDiff, reduceIte, Nat.zero_add]
                  have kk0 := XO.in hk (i := 0) (v := .string on) rfl
                  have kk1 := XO.in hk (i := 1) (v := .string od) rfl
                  have kk2 : ∀ u, (W u).cell? ⟨b, o + k * 9 + 3, none⟩ = some (.string a3) := fun u => ((hk u).cell (p := ⟨b, o + k * 9 + 3, none⟩) hb1).trans (hbA 3 _ rfl)
                  have kk3 : ∀ u, (W u).cell? ⟨b, o + k * 9 + 4, none⟩ = some (.string a4) := fun u => ((hk u).cell (p := ⟨b, o + k * 9 + 4, none⟩) hb1).trans (hbA 4 _ rfl)
                  have kk4 : ∀ u, (W u).cell? ⟨b', o' + k * 9 + 3, none⟩ = some (.string e3) := fun u => ((hk u).cell (p := ⟨b', o' + k * 9 + 3, none⟩) hb1').trans (hbE 3 _ rfl)
                  have kk5 : ∀ u, (W u).cell? ⟨b', o' + k * 9 + 4, none⟩ = some (.string e4) := fun u => ((hk u).cell (p := ⟨b', o' + k * 9 + 4, none⟩) hb1').trans (hbE 4 _ rfl)
                  repeat (go_big_quiet_step (first | (with_reducible exact KA1.fresh hs1 hk hcl) | (with_reducible exact KA2.fresh hs1 hk hcl) | (with_reducible exact KM.fresh hs1 hk hcl)))
                  exact wpQuiet_nil rfl
                intro bG v1 hbG hv1 hxG
                simp only [List.drop_succ_cons, List.drop_zero, ptrTo]
                have c0 := hxG.cell (i := 0) (v := .string ⟨#[]⟩) rfl
                have c1 := hxG.cell (i := 1) (v := .string ⟨#[]⟩) rfl
                have cf0 := hxG.frozen 0
                have cf1 := hxG.frozen 1
                have nO : bO ≠ bG := by omega
                have nW : bW ≠ bG := by omega
                go_wp2_with fail
                have XG := (hxG.set 0 (.string g5)).set 1 (.string g6)
                have hlow : Below W1.heap.size W1 ((v1.setCell ⟨bG, 0, none⟩ (.string g5)).setCell ⟨bG, 1, none⟩ (.string g6)) := (hv1.setCell (p := ⟨bG, 0, none⟩) hbG _).setCell (p := ⟨bG, 1, none⟩) hbG _
                replace XO := XO.on hlow
                replace XW := XW.on hlow
                have hs2 := hs1.on hlow
                have HO2 := Lib.hid (own_below HO1.out hlow)
                have hbA2 : ∀ t v, (scells ⟨a0, a1, a2, a3, a4, a5, a6, a7, a8⟩)[t]? = some v → World.cell? ((v1.setCell ⟨bG, 0, none⟩ (.string g5)).setCell ⟨bG, 1, none⟩ (.string g6)) ⟨b, o + k * 9 + t, none⟩ = some v := fun t v h => (hlow.cell (p := ⟨b, o + k * 9 + t, none⟩) hb1).trans (hbA t v h)
                replace XG : Bx ((v1.setCell ⟨bG, 0, none⟩ (.string g5)).setCell ⟨bG, 1, none⟩ (.string g6)) bG #[.string g5, .string g6] := XG
                clear c0 c1 cf0 cf1 hxG hlow hv1 hbA hbE HO1 hs1 KA1 KA2 KM
                generalize (v1.setCell ⟨bG, 0, none⟩ (.string g5)).setCell ⟨bG, 1, none⟩ (.string g6) = W2 at *
                have k0 := XW.keeps (i := 0) (v := .string zn) rfl
                have k1 := XW.keeps (i := 1) (v := .string zd) rfl
                have k2 := XG.keeps (i := 0) (v := .string g5) rfl
                have k3 := XG.keeps (i := 1) (v := .string g6) rfl
                have k4 : ∀ u : Kept W2, u.W.cell? ⟨b, o + k * 9 + 1, none⟩ = some (.string a1) := fun u => Kept.cell_of (hbA2 1 _ rfl) u
                have k5 : ∀ u : Kept W2, u.W.cell? ⟨b, o + k * 9 + 2, none⟩ = some (.string a2) := fun u => Kept.cell_of (hbA2 2 _ rfl) u
                clear hbA2
                refine wp_region_kept_tail 9 (by kernel_rfl) (by kernel_rfl) ?_
                simp only [List.take_succ_cons, List.take_zero, List.drop_succ_cons, List.drop_zero]
                repeat (go_big_quiet_step (first | (with_reducible exact KM2.kept hs2) | (with_reducible exact KAW.kept hs2)))
                refine wpQuiet_nil ?_
                rintro _ ⟨u, rfl⟩
                have BU := XW.kept u
                have u0 := BU.cell (i := 0) (v := .string zn) rfl
                have u1 := BU.cell (i := 1) (v := .string zd) rfl
                have v0 := BU.frozen 0
                have vf1 := BU.frozen 1
                go_wp2_with fail
                go_roundw
                case rel =>
                  refine ⟨k + 1, by omega, by go_num, ((hs2.kept u).set (b := bW) (by omega) 0 (.string xn)).set (b := bW) (by omega) 1 (.string xd), ((XO.kept u).other (by omega) 0 (.string xn)).other (by omega) 1 (.string xd), ?_, ?_⟩
                  · show Bx _ _ _
                    rw [HXN.out, HXD.out]
                    exact (BU.set 0 (.string xn)).set 1 (.string xd)
                  · show World.ownsRow _ _ _ _ _ _ _
                    have h1 := own_below HO2.out u.low
                    rcases h1.2 with ⟨h2, _⟩ | ⟨g2, cap2, cur2, h2, h3, h4, h5⟩
                    · cases h2
                    · refine ⟨h1.1, .inr ⟨g2, cap2, cur2, h2, h3, ?_, h5⟩⟩
                      have hg2 : g2 ≠ bW := by
                        injection h2 with h2
                        injection h2 with h2
                        injection h2 with h2
                        omega
                      exact (Below.heap_setCell _ _ _ _ hg2).trans ((Below.heap_setCell _ _ _ _ hg2).trans h4)
                case measure => simp [intOf]; omega
          · have q' : (chkS m != 0) = true := by simpa using hE'
            have KL0 := KC'
            generalize chkS m = cm at *
            clear ht hn hm hz hr hn' hm' hz' hr' hc' ht' hE' hE hok h1 h2 hf e2 hdo hdf hl hl' hlt hc h5
            go_enter Tryz.func6, Tryz.ntmps6
            go_wp2_with fail
            refine KG.step hs HR.out ?_
            intro w1 hs _
            go_wp2_with fail
            refine KG'.step hs (HR'.out.on hs.2) ?_
            intro w2 hs _
            go_wp2_with fail
            refine (KD.out _ hs.gl (HR.out.on hs.2)).mono ?_
            rintro e w3 ⟨v, rfl, ho, hb3⟩
            obtain ⟨g, cap, rfl, _, _, hcap, _⟩ := ho.slice8 hp
            replace hs := hs.on hb3
            have HX := Lib.hid ho.row8
            have KC2 := KC.out (some ⟨g, 0, none⟩) cap hcap
            clear ho hb3 KC KD
            go_wp2_with fail
            refine KC2.step hs HX.out ?_
            intro w4 hs hb4
            have HX4 := Lib.hid (HX.out.on hb4)
            go_wp2_with fail
            refine KC'.step hs (HR'.out.on hs.2) ?_
            intro w5 hs hb5
            have HX5 := Lib.hid (HX4.out.on hb5)
            go_wp2_with fail
            refine KC2.step hs HX5.out ?_
            intro w6 hs _
            go_wp2_with fail
            refine AW.step hs ?_
            intro wa hs _
            go_wp2_with fail
            go_ret
            exact ⟨rfl, hs.2⟩
      · have e2 : driR l = [] := if_neg hE
        have q : (driE l != 0) = true := by simpa using hE
        rw [e2] at KD
        generalize driE l = de at *
        clear ht hn hm hz hr hc hn' hm' hz' hr' hc' ht' hE e2 hl hl'
        go_enter Tryz.func6, Tryz.ntmps6
        go_wp2_with fail
        refine KG.step hs HR.out ?_
        intro w1 hs _
        go_wp2_with fail
        refine KG'.step hs (HR'.out.on hs.2) ?_
        intro w2 hs _
        go_wp2_with fail
        refine (KD.out _ hs.gl (HR.out.on hs.2)).mono ?_
        rintro e w3 ⟨v, rfl, ho, hb3⟩
        obtain ⟨A1, c1, hv1, hr1⟩ := ho.row
        subst hv1
        replace hs := hs.on hb3
        clear ho hb3 hr1 KD
        go_wp2_with fail
        refine AW.step hs ?_
        intro wa hs _
        go_wp2_with fail
        go_ret
        exact ⟨rfl, hs.2⟩
end Go.Proofs.YtndkglmokhndnaaGreatDoor
