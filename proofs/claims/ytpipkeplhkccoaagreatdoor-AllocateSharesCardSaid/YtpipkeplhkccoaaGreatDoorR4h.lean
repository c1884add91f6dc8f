/- Allocation, the reference: the blocks that Split makes. No condition. Allocation, the reference: Split. Condition: up to twelve weights of bounded length, or more than 1000. Allocation, the reference: Split with its errors, Running, Even. Condition: up to twelve weights of bounded length, or more than 1000. -/
import Derived.Test.YtpipkeplhkccoaaGreatDoorR4g
import Derived.Test.YtpipkeplhkccoaaGreatDoorDv
import Derived.Test.YtpipkeplhkccoaaGreatDoorWc
import Derived.Test.YtpipkeplhkccoaaGreatDoorFd
namespace Go.Proofs.YtpipkeplhkccoaaGreatDoor
open Go.RowKit Go.Shelf Go.Sort SP Dec QQ

theorem madeF4 {n : Nat} (h : n ≤ 12) : ∃ Z : Array Value, Z.size = n * 2 ∧ ∀ u : World, (Instr.makeSlice 42 (.int .i64 (n : Int)) (.int .i64 (n : Int))).run Tryz.prog u = .ok (R3.sliTo n n u.heap.size) (u.alloc (.cells Z 36)) := by
  refine ⟨Array.replicate (n * 2) (.string ⟨#[]⟩), by simp, fun u => ?_⟩
  obtain h | h | h | h | h | h | h | h | h | h | h | h | h : n = 0 ∨ n = 1 ∨ n = 2 ∨ n = 3 ∨ n = 4 ∨ n = 5 ∨ n = 6 ∨ n = 7 ∨ n = 8 ∨ n = 9 ∨ n = 10 ∨ n = 11 ∨ n = 12 := by omega
  all_goals
    subst h
    kernel_rfl
/-- the cells of a list of fractions -/
def FQ (g : Nat → Rat) (j : Nat) : Value := if j % 2 = 0 then .string (frN (g (j / 2))) else .string (frD (g (j / 2)))
theorem FQ_even (g : Nat → Rat) (i : Nat) : FQ g (i * 2) = .string (frN (g i)) := by
  unfold FQ
  rw [if_pos (by omega), show i * 2 / 2 = i by omega]
theorem FQ_odd (g : Nat → Rat) (i : Nat) : FQ g (i * 2 + 1) = .string (frD (g i)) := by
  unfold FQ
  rw [if_neg (by omega), show (i * 2 + 1) / 2 = i by omega]
section
variable {W W' : World} {b n k : Nat} {T : TypeId} {g : Nat → Rat}
theorem Fil.setQ (h : Fil W b T (n * 2) (k * 2) (FQ g)) (hk : k < n) {x y : ByteArray} (hx : frN (g k) = x) (hy : frD (g k) = y) : Fil ((W.setCell ⟨b, k * 2, none⟩ (.string x)).setCell ⟨b, k * 2 + 1, none⟩ (.string y)) b T (n * 2) ((k + 1) * 2) (FQ g) := by
  have h1 := Fil.set h (by omega)
  rw [FQ_even, hx] at h1
  have h2 := Fil.set h1 (by omega)
  rw [FQ_odd, hy] at h2
  rw [show (k + 1) * 2 = k * 2 + 1 + 1 by omega]
  exact h2
theorem Fil.updQ (h : Fil W b T (n * 2) (n * 2) (FQ g)) {g' : Nat → Rat} {i : Nat} {x y : ByteArray} (hx : frN (g' i) = x) (hy : frD (g' i) = y) (e : ∀ k, k < n → k ≠ i → g' k = g k) : Fil ((W.setCell ⟨b, i * 2, none⟩ (.string x)).setCell ⟨b, i * 2 + 1, none⟩ (.string y)) b T (n * 2) (n * 2) (FQ g') := by
  have h1 := Fil.upd h (g := fun j => if j = i * 2 then .string x else FQ g j) (i := i * 2) (v := .string x) (by rw [if_pos rfl]) (fun k _ hk => by rw [if_neg hk])
  refine Fil.upd h1 (i := i * 2 + 1) (by rw [FQ_odd, hy]) (fun k hk hki => ?_)
  by_cases e1 : k = i * 2
  · rw [if_pos e1, e1, FQ_even, hx]
  · rw [if_neg e1]
    unfold FQ
    rw [e (k / 2) (by omega) (by omega)]
theorem Fil.cellQ (h : Fil W b T (n * 2) (k * 2) (FQ g)) {i : Nat} (hi : i < k) : W.cell? ⟨b, i * 2, none⟩ = Option.some (.string (frN (g i))) ∧ W.cell? ⟨b, i * 2 + 1, none⟩ = Option.some (.string (frD (g i))) := by
  have h1 := h.cell (i := i * 2) (by omega)
  have h2 := h.cell (i := i * 2 + 1) (by omega)
  rw [FQ_even] at h1
  rw [FQ_odd] at h2
  exact ⟨h1, h2⟩
theorem FQ_congr {g' : Nat → Rat} {m : Nat} (h : Fil W b T n (m * 2) (FQ g)) (e : ∀ k, k < m → g k = g' k) : Fil W b T n (m * 2) (FQ g') := h.congr fun i hi => by
  unfold FQ
  rw [e (i / 2) (by omega)]
end
/-- the two blocks that Split makes -/
structure RB (w : World) (Z Y : Array Value) (P R : Nat) (W : World) : Prop where
  low : Below w.heap.size w W
  pr : W.heap[P]? = some (.cells Z 22 (0, 0))
  rr : W.heap[R]? = some (.cells Y 36 (0, 0))
  lP : w.heap.size ≤ P
  lR : w.heap.size ≤ R
  ne : P ≠ R
theorem twoR_low (w : World) (o o' : Obj) : Below w.heap.size w ((w.alloc o).alloc o').drew := (((Below.refl _ _).alloc (Nat.le_refl _) _).alloc (by simp) _).drew
theorem twoR_fst (w : World) (o o' : Obj) : ((w.alloc o).alloc o').drew.heap[w.heap.size]? = some o := (Below.heap_alloc _ _ _ (by simp)).trans (heap_new w _)
theorem twoR_snd (w : World) (o o' : Obj) : ((w.alloc o).alloc o').drew.heap[w.heap.size + 1]? = some o' := by
  have := heap_new (w.alloc o) o'
  rwa [World.size_alloc] at this
theorem RB.a (w : World) (Z Y : Array Value) : RB w Z Y w.heap.size (w.heap.size + 1) ((w.alloc (.cells Z 22)).alloc (.cells Y 36)).drew := ⟨twoR_low _ _ _, twoR_fst _ _ _, twoR_snd _ _ _, Nat.le_refl _, by omega, by omega⟩
theorem RB.b (w : World) (Z Y : Array Value) : RB w Z Y (w.heap.size + 1) w.heap.size ((w.alloc (.cells Y 36)).alloc (.cells Z 22)).drew := ⟨twoR_low _ _ _, twoR_snd _ _ _, twoR_fst _ _ _, by omega, Nat.le_refl _, by omega⟩
/-- Split's blocks on the way -/
structure RS (w : World) (n P R : Nat) (p : Nat → Int) (q : Nat → Rat) (kp kq : Nat) (W : World) : Prop where
  st : St w W
  pr : Fil W P 22 n kp (fun i => .string (canS (p i)))
  rr : Fil W R 36 (n * 2) (kq * 2) (FQ q)
  lo : w.heap.size ≤ P ∧ w.heap.size ≤ R
  ne : P ≠ R
section
variable {w W W' : World} {n P R kp kq : Nat} {p : Nat → Int} {q : Nat → Rat}
theorem RS.up (h : RS w n P R p q kp kq W) (hb : Below W.heap.size W W') : RS w n P R p q kp kq W' := ⟨h.st.on hb, h.pr.on hb, h.rr.on hb, h.lo, h.ne⟩
theorem RS.setP (h : RS w n P R p q kp kq W) (hk : kp < n) {x : ByteArray} (hx : canS (p kp) = x) : RS w n P R p q (kp + 1) kq (W.setCell ⟨P, kp, none⟩ (.string x)) := by
  subst hx
  exact ⟨h.st.set h.lo.1 _ _, Fil.set h.pr hk, h.rr.other (fun e => h.ne e.symm) _ _, h.lo, h.ne⟩
theorem RS.setR (h : RS w n P R p q kp kq W) (hk : kq < n) {x y : ByteArray} (hx : frN (q kq) = x) (hy : frD (q kq) = y) : RS w n P R p q kp (kq + 1) ((W.setCell ⟨R, kq * 2, none⟩ (.string x)).setCell ⟨R, kq * 2 + 1, none⟩ (.string y)) :=
  ⟨(h.st.set h.lo.2 _ _).set h.lo.2 _ _, (h.pr.other h.ne _ _).other h.ne _ _, h.rr.setQ hk hx hy, h.lo, h.ne⟩
theorem RS.updP (h : RS w n P R p q n n W) {p' : Nat → Int} {i : Nat} {x : ByteArray} (hx : canS (p' i) = x) (e : ∀ k, k < n → k ≠ i → p' k = p k) : RS w n P R p' q n n (W.setCell ⟨P, i, none⟩ (.string x)) :=
  ⟨h.st.set h.lo.1 _ _, h.pr.upd (by rw [hx]) (fun k hk hki => by rw [e k hk hki]), h.rr.other (fun e => h.ne e.symm) _ _, h.lo, h.ne⟩
theorem RS.updR (h : RS w n P R p q n n W) {q' : Nat → Rat} {i : Nat} {x y : ByteArray} (hx : frN (q' i) = x) (hy : frD (q' i) = y) (e : ∀ k, k < n → k ≠ i → q' k = q k) : RS w n P R p q' n n ((W.setCell ⟨R, i * 2, none⟩ (.string x)).setCell ⟨R, i * 2 + 1, none⟩ (.string y)) :=
  ⟨(h.st.set h.lo.2 _ _).set h.lo.2 _ _, (h.pr.other h.ne _ _).other h.ne _ _, h.rr.updQ hx hy e, h.lo, h.ne⟩
end
end Go.Proofs.YtpipkeplhkccoaaGreatDoor
namespace Go.Proofs.YtpipkeplhkccoaaGreatDoor
open Go.RowKit Go.Shelf Go.Sort SP Dec QQ

theorem fil_nums {W : World} {P n : Nat} {l : List Int} (hl : l.length = n) (h : Fil W P 22 n n (fun i => .string (canS (at0 l i)))) : Row W (some ⟨P, 0, none⟩) ((l.map canS).map sv) := by
  have := h.row
  rwa [← hl, ← flat_icells, flat_sv] at this
set_option maxRecDepth 100000 in
set_option maxHeartbeats 4000000 in
theorem rsplit_few {A : Option Addr} {n c k0 : Nat} {t : ByteArray} {ws : List ByteArray} (hn : ws.length = n) (h12 : n ≤ 12) (hk0 : k0 ≤ 2000) (ht : t.size ≤ k0) (hz : ∀ s ∈ ws, s.size ≤ k0) (he : alE t ws = 0) (w : World) (hg : Gl w) (hr : Row w A (ws.map sv)) :
    Calls Tryz.prog 19 #[.string t, .slice A n c] w fun e w' => ∃ v, e = .returned (.tuple #[v, .int .i64 0]) ∧ OutG icells 22 1 w.heap.size w' v n (splL (valS t) (iv ws)) ∧ Below w.heap.size w w' := by
  have hs := St.refl hg
  have HR := Lib.hid hr
  have ho := alE_zero.1 he
  have hil : (iv ws).length = n := by rw [iv_len, hn]
  have h0 : 0 < n := by have := ho.len0; omega
  have KI := Lib.hid (fun (u : World) (hg : Gl u) (hr : Row u A (ws.map sv)) => rideal_few (A := A) (c := c) hn h12 (by omega) ht hz he u hg hr)
  obtain ⟨T', hT'⟩ : ∃ x, absI (valS t) = x := ⟨_, rfl⟩
  have hTn : 0 ≤ T' := by rw [← hT']; exact absI_nn _
  have fT : Fit k0 T' := by
    have := Fit.val (a := t) ht
    rw [← hT']
    unfold Fit absI at *
    split <;> omega
  have fS : Fit (k0 + 2) (iv ws).sum := whole_fit hz (by omega)
  have hS := ho.ok.pos
  have hnn := ho.ok.nn
  have hrl : (rL T' (iv ws)).length = n := by rw [rL_len, hil]
  have hql : (qL T' (iv ws)).length = n := by rw [qL_len, hil]
  have HRB : Hid (∀ x ∈ rL T' (iv ws), 0 ≤ x ∧ x < (iv ws).sum) := rest_bounds T' ho.ok
  -- sizes
  have HFQ : Hid (∀ i, i < n → Fit (k0 + k0 + 1) (at0 (qL T' (iv ws)) i)) := fun i hi => by
    rw [qL_at (by rw [hil]; exact hi)]
    exact (fT.mul (iv_fit hz _ (List.mem_of_getElem? (at0_lt (by rw [hil]; exact hi))))).fdiv
  have HFP : Hid (∀ s i, i < n → Fit (k0 + k0 + 2) (prtI (qL T' (iv ws)) (rL T' (iv ws)) s i)) := fun s i hi => by
    have h1 := HFQ.out i hi
    have h2 : (10 : Nat) ^ (k0 + k0 + 2) = 10 ^ (k0 + k0 + 1) * 10 := by rw [← Nat.pow_succ]
    have h3 : 0 < (10 : Nat) ^ (k0 + k0 + 1) := Nat.pow_pos (by omega)
    unfold Fit prtI at *
    generalize 10 ^ (k0 + k0 + 1) = p at *
    rw [h2]
    split <;> omega
  have HFR : Hid (∀ s i, i < n → FitQ (k0 + 2) (rstQ (rL T' (iv ws)) (iv ws).sum s i)) := fun s i hi => by
    have h1 := lft_fit HRB.out (t := s) (i := i) (by rw [hrl]; exact hi)
    exact FitQ.mono (FitQ.rat (k := k0 + 2) (m := k0 + 2) (Nat.lt_of_le_of_lt h1 fS) fS (by omega)) (by omega)
  have HID : Hid (∀ i, i < n → (idL (valS t) (iv ws))[i]? = some (rat (valS t * at0 (iv ws) i) (iv ws).sum) ∧ FitQ (k0 + k0 + 2) (rat (valS t * at0 (iv ws) i) (iv ws).sum) ∧ absR (rat (valS t * at0 (iv ws) i) (iv ws).sum) = rat (T' * at0 (iv ws) i) (iv ws).sum ∧ FitQ (k0 + k0 + 2) (rat (T' * at0 (iv ws) i) (iv ws).sum) ∧ (rat (T' * at0 (iv ws) i) (iv ws).sum).floor = at0 (qL T' (iv ws)) i ∧ rat (T' * at0 (iv ws) i) (iv ws).sum - ((at0 (qL T' (iv ws)) i : Int) : Rat) = rstQ (rL T' (iv ws)) (iv ws).sum 0 i) := fun i hi => by
    have hi' : i < (iv ws).length := by rw [hil]; exact hi
    have hm := List.mem_of_getElem? (at0_lt hi')
    have fw := iv_fit hz _ hm
    refine ⟨idL_at hi', FitQ.mono (FitQ.rat (k := k0 + k0) (m := k0 + 2) ((Fit.val (k := k0) ht).mul fw) fS (by omega)) (by omega), ?_, FitQ.mono (FitQ.rat (k := k0 + k0) (m := k0 + 2) (fT.mul fw) fS (by omega)) (by omega), ?_, ?_⟩
    · rw [absR_rat _ hS (hnn _ hm), hT']
    · rw [qL_at hi', ← floor_rat (by omega)]
    · rw [qL_at hi', rst_zero, rL_at hi', rest_rat hS]
  have hMB := mis_le T' ho.ok
  rw [hil] at hMB
  obtain ⟨M, hM⟩ : ∃ M : Nat, mis T' (iv ws) = (M : Int) := ⟨(mis T' (iv ws)).toNat, by omega⟩
  have hMn : M ≤ n := by omega
  have HLAST : Hid (∀ i, i < n → prtI (qL T' (iv ws)) (rL T' (iv ws)) M i = at0 (posL T' (iv ws)) i) := fun i hi => by
    have := prt_last T' ho.ok (i := i) (by rw [hil]; exact hi)
    rwa [hM, Int.toNat_natCast] at this
  have HSPL : Hid (splL (valS t) (iv ws) = if valS t < 0 then (posL T' (iv ws)).map (fun x => -x) else posL T' (iv ws)) := by
    show _ = _
    rw [splL_abs, hT']
  have HPL : Hid ((posL T' (iv ws)).length = n) := by show _ = _; rw [posL_len, hil]
  have HMIS : Hid (T' - (qL T' (iv ws)).sum = (M : Int)) := hM
  obtain ⟨ll, hll⟩ : ∃ l, splL (valS t) (iv ws) = l := ⟨_, rfl⟩
  rw [hll]
  rw [hll] at HSPL
  have HTA : Hid (absR ((valS t : Int) : Rat) = (T' : Rat)) := by
    show _ = _
    rw [absR_int, hT']
  have fTq : FitQ (k0 + 1) ((T' : Int) : Rat) := FitQ.int (fT.mono (by omega)) (by omega)
  have fVq : FitQ (k0 + 1) ((valS t : Int) : Rat) := FitQ.int ((Fit.val (k := k0) ht).mono (by omega)) (by omega)
  have KOf := rof_r (a := t) (by omega)
  have KAbs := rabs4 fVq (by omega)
  rw [HTA.out] at KAbs
  have KFl := rfloorFR fTq (by omega)
  rw [Rat.floor_intCast] at KFl
  have KSum := fun (P : Nat) => rsum4 (A := some ⟨P, 0, none⟩) (n := n) (c := n) (k0 := k0 + k0 + 2) (ws := (qL T' (iv ws)).map canS) (by rw [List.length_map, hql]) h12 (by omega) (fun s hs => by
    obtain ⟨z, hz', rfl⟩ := List.mem_map.1 hs
    obtain ⟨i, hi, rfl⟩ := List.mem_iff_getElem.1 hz'
    have e : at0 (qL T' (iv ws)) i = (qL T' (iv ws))[i] := at0_some (List.getElem?_eq_getElem hi)
    rw [← e]
    have := (HFQ.out i (by rw [← hql]; exact hi)).size
    omega)
  rw [iv_can] at KSum
  have fQs : Fit (k0 + k0 + 1 + 2) (qL T' (iv ws)).sum := sum_fit (fun x hx => by
    obtain ⟨i, hi, rfl⟩ := List.mem_iff_getElem.1 hx
    have e : at0 (qL T' (iv ws)) i = (qL T' (iv ws))[i] := at0_some (List.getElem?_eq_getElem hi)
    rw [← e]
    exact HFQ.out i (by rw [← hql]; exact hi)) (by omega)
  have KSub := rSubR (a := canS T') (b := canS (qL T' (iv ws)).sum) (by have := fT.size; omega) (by have := fQs.size; omega)
  rw [valS_canS, valS_canS, HMIS.out] at KSub
  have KSm : Ret 62 #[.string (canS (M : Int))] (.tuple #[.int .i64 (M : Int), .bool true]) := fun w hg => by
    have := rsmall_any (canS (M : Int)) w (by
      have := (show Fit 2 (M : Int) by show (M : Int).natAbs < 10 ^ 2; omega).size
      omega)
    rwa [valS_canS, show sml (M : Int) = ((M : Int), true) by unfold sml; rw [if_pos ⟨by omega, by omega⟩]] at this
  have KNeg := rneg4 (a := t) (by omega)
  have KO := rof1
  obtain ⟨Z, hZ, hm⟩ := madeS h12
  obtain ⟨Y, hY, hmf⟩ := madeF4 h12
  have HM1 := Lib.hid hm
  have HM2 := Lib.hid hmf
  have HKS := Lib.hid KSum
  have HLEN := Lib.hid (And.intro hrl hql)
  have HS0 := Lib.hid hS
  unfold FR at KOf KAbs KFl KO
  generalize canS (qL T' (iv ws)).sum = qsum at *
  generalize canS T' = tcan at *
  generalize canS (M : Int) = mt at *
  generalize frN ((valS t : Int) : Rat) = vn at *
  generalize frD ((valS t : Int) : Rat) = vd at *
  generalize frN ((T' : Int) : Rat) = un at *
  generalize frD ((T' : Int) : Rat) = ud at *
  clear hr ho hil hTn fT fS hS hnn hrl hql hMB hM hT' hll fTq fVq fQs KSum hm hmf hn ht hz he
  go_enter Tryz.func19, Tryz.ntmps19
  go_wp2_with fail
  refine (KI.out w hs.gl HR.out).mono ?_
  rintro e w1 ⟨v, rfl, hov, hb1⟩
  obtain ⟨g, c1, rfl, hrow⟩ : ∃ g c, v = .slice (some ⟨g, 0, none⟩) n c ∧ Row w1 (some ⟨g, 0, none⟩) (flatG qcells (idL (valS t) (iv ws))) := by
    obtain ⟨A', c', e, hr⟩ := hov.row
    rcases hov.2.2 with ⟨_, h1⟩ | ⟨g, cap, cur, rfl, e2, e3, e4, e5, e6, e7⟩
    · omega
    · injection e with e8 e9 e10
      subst e8
      exact ⟨g, cap, rfl, hr⟩
  have HW1 := Lib.hid (hs.on hb1)
  have HG := Lib.hid hrow
  clear hov hrow hb1 hs
  go_wp2_with fail
  have HMS : ∀ u : World, (Instr.makeSlice 25 (.int .i64 (n : Int)) (.int .i64 (n : Int))).run Tryz.prog u = .ok (.slice (some ⟨u.heap.size, 0, none⟩) n n) (u.alloc (.cells Z 22)) := HM1.out
  have HMF : ∀ u : World, (Instr.makeSlice 42 (.int .i64 (n : Int)) (.int .i64 (n : Int))).run Tryz.prog u = .ok (.slice (some ⟨u.heap.size, 0, none⟩) n n) (u.alloc (.cells Y 36)) := HM2.out
  go_upto_region 5 with (fail)
  go_cut [9, 10] (fun a9 a10 wx => ∃ P R, a9 = .slice (some ⟨P, 0, none⟩) n n ∧ a10 = .slice (some ⟨R, 0, none⟩) n n ∧ Hid (RB w1 Z Y P R wx))
  case first =>
    clear KOf KAbs KFl KSub KSm KNeg KO HKS KI
    go_big_region
    all_goals
      go_wp2_with fail
      go_meet
      first
        | exact ⟨_, _, rfl, rfl, RB.a _ _ _⟩
        | exact ⟨_, _, rfl, rfl, RB.b _ _ _⟩
  case rest =>
  obtain ⟨P, R, rfl, rfl, HB⟩ := hcut
  clear HMS HMF
  have HR0 : Hid (RS w1 n P R (prtI (qL T' (iv ws)) (rL T' (iv ws)) 0) (rstQ (rL T' (iv ws)) (iv ws).sum 0) 0 0 wc) :=
    ⟨⟨HW1.out.gl, HB.out.low⟩, Fil.start HB.out.pr hZ, Fil.start HB.out.rr hY, ⟨HB.out.lP, HB.out.lR⟩, HB.out.ne⟩
  clear HB hZ hY HM1 HM2
  generalize wc = W5 at *
  go_wp2_with fail
  go_loopw [11] (fun s wr => ∃ k : Nat, k ≤ n ∧ s = .int .i64 (k : Int) ∧ Hid (RS w1 n P R (prtI (qL T' (iv ws)) (rL T' (iv ws)) 0) (rstQ (rL T' (iv ws)) (iv ws).sum 0) k k wr)) (fun s _ => (n - intOf s).toNat)
  case atStart => exact ⟨0, by omega, rfl, HR0.out⟩
  case round =>
    clear HR0
    obtain ⟨k, hk, rfl, HRS⟩ := hrel
    by_cases hkn : k = n
    · subst hkn
      have q : decide ((k : Int) < (k : Int)) = false := decide_eq_false (by omega)
      have hs := HRS.out.st
      have hrow := fil_nums HLEN.out.2 (HRS.out.pr.congr (g := fun i => .string (canS (at0 (qL T' (iv ws)) i))) (fun i _ => by rw [prt_zero]))
      have HROW := Lib.hid hrow
      clear hrow HG HID KI HFQ
      go_wp2_with fail
      refine KOf.step hs ?_
      intro w6 hs6 hb6
      go_wp2_with fail
      refine KAbs.step hs6 ?_
      intro w7 hs7 hb7
      go_wp2_with fail
      refine KFl.step hs7 ?_
      intro w8 hs8 hb8
      go_wp2_with fail
      refine (HKS.out P).step hs8 (((HROW.out.on hb6).on hb7).on hb8) ?_
      intro w9 hs9 hb9
      go_wp2_with fail
      refine KSub.step hs9 ?_
      intro w10 hs10 hb10
      go_wp2_with fail
      refine KSm.step hs10 ?_
      intro w11 hs11 hb11
      have HR1 := Lib.hid ((((((HRS.out.up hb6).up hb7).up hb8).up hb9).up hb10).up hb11)
      clear HRS HROW hs hs6 hs7 hs8 hs9 hs10 hs11 hb6 hb7 hb8 hb9 hb10 hb11 KOf KAbs KFl KSub KSm HKS
      have HN1 : Hid ((rL T' (iv ws)).length = k - 1 + 1) := by show _ = _; rw [HLEN.out.1]; omega
      go_wp2_with fail
      go_loopw [13] (fun s wr => ∃ m x : Nat, m + x = M ∧ s = .int .i64 (m : Int) ∧ Hid (RS w1 k P R (prtI (qL T' (iv ws)) (rL T' (iv ws)) x) (rstQ (rL T' (iv ws)) (iv ws).sum x) k k wr)) (fun s _ => (intOf s).toNat)
      case atStart => exact ⟨M, 0, by omega, rfl, HR1.out⟩
      case round =>
        clear HR1
        obtain ⟨m, x, hmx, rfl, HRS⟩ := hrel
        by_cases hm0 : m = 0
        · subst hm0
          have q0 : decide ((0 : Int) < ((0 : Nat) : Int)) = false := by decide
          have hx : x = M := by omega
          subst hx
          have hs := HRS.out.st
          have HXS : Hid (Fil _ P 22 k k (fun i => .string (canS (at0 (posL T' (iv ws)) i)))) := HRS.out.pr.congr (fun i hi => by rw [HLAST.out i hi])
          have HLO := Lib.hid HRS.out.lo.1
          have HFX : Hid (∀ i, i < k → Fit (k0 + k0 + 2) (at0 (posL T' (iv ws)) i)) := fun i hi => by
            have := HFP.out x i hi
            rwa [HLAST.out i hi] at this
          generalize posL T' (iv ws) = xs at *
          clear HRS HLAST HFP HFR
          by_cases hneg : valS t < 0
          · have e : ll = xs.map (fun x => -x) := by rw [HSPL.out, if_pos hneg]
            subst e
            rw [decide_eq_true hneg] at KNeg
            clear hneg
            go_wp2_with fail
            refine KNeg.step hs ?_
            intro w12 hs hb12
            have HF : Hid (Fil w12 P 22 k k (fun i => .string (canS (if i < 0 then -at0 xs i else at0 xs i)))) := (HXS.out.on hb12).congr (fun i _ => by rw [if_neg (Nat.not_lt_zero _)])
            clear HXS
            go_wp2_with fail
            go_loopw [17] (fun s wr => ∃ j : Nat, j ≤ k ∧ s = .int .i64 (j : Int) ∧ St w1 wr ∧ Hid (Fil wr P 22 k k (fun i => .string (canS (if i < j then -at0 xs i else at0 xs i))))) (fun s _ => (k - intOf s).toNat)
            case atStart => exact ⟨0, by omega, rfl, hs, HF.out⟩
            case round =>
              clear hs HF
              obtain ⟨j, hj, rfl, hs, HF⟩ := hrel
              by_cases hjn : j = k
              · subst hjn
                have q : decide ((j : Int) < (j : Int)) = false := decide_eq_false (by omega)
                go_wp2_with fail
                go_ret2
                refine ⟨_, rfl, POut.outG ⟨P, rfl, Nat.le_trans HW1.out.2.size HLO.out, by rw [List.length_map, HPL.out], HF.out.congr fun i hi => ?_⟩ h12, (HW1.out.on hs.2).2⟩
                rw [if_pos hi, at0_neg]
              · have hjl : j < k := by omega
                have q : decide ((j : Int) < (k : Int)) = true := decide_eq_true (by omega)
                have qn : decide (j < k) = true := decide_eq_true hjl
                have cj := HF.out.cell (i := j) hjl
                rw [if_neg (Nat.lt_irrefl _)] at cj
                have fx := HFX.out j hjl
                have KX := rnegR (a := canS (at0 xs j)) (by have := fx.size; omega)
                rw [valS_canS] at KX
                have HST : ∀ W : World, Below wr.heap.size wr W → Hid (Fil (W.setCell ⟨P, j, none⟩ (.string (canS (-at0 xs j)))) P 22 k k (fun i => .string (canS (if i < j + 1 then -at0 xs i else at0 xs i)))) := fun W hb => (HF.out.on hb).upd (by
                  show Value.string (canS (if j < j + 1 then _ else _)) = _
                  rw [if_pos (by omega)]) (fun i hi hik => by
                  show Value.string (canS (if i < j + 1 then _ else _)) = Value.string (canS (if i < j then _ else _))
                  by_cases hlt : i < j
                  · rw [if_pos (by omega), if_pos hlt]
                  · rw [if_neg (by omega), if_neg hlt])
                have jl : (j : Int) < (k : Int) := by omega
                generalize canS (-at0 xs j) = y at *
                generalize canS (at0 xs j) = x' at *
                clear fx hjn
                go_wp2_with fail
                refine KX.step hs ?_
                intro w13 hs hb13
                obtain ⟨vP, cP⟩ := (HF.out.on hb13).some hjl
                have fP := (HF.out.on hb13).frozen j
                have HS4 := HST _ hb13
                have hs5 := hs.set HLO.out j (.string y)
                go_wp2_with fail
                go_roundw
                case rel => exact ⟨j + 1, by omega, by go_num, hs5, HS4.out⟩
                case measure => simp [intOf]; omega
          · have e : ll = xs := by rw [HSPL.out, if_neg hneg]
            subst e
            rw [decide_eq_false hneg] at KNeg
            clear hneg
            go_wp2_with fail
            refine KNeg.step hs ?_
            intro w12 hs hb12
            have HF := Lib.hid (HXS.out.on hb12)
            clear HXS
            go_wp2_with fail
            go_ret2
            exact ⟨_, rfl, POut.outG ⟨P, rfl, Nat.le_trans HW1.out.2.size HLO.out, HPL.out, HF.out⟩ h12, (HW1.out.on hs.2).2⟩
        · obtain ⟨m', rfl⟩ : ∃ q, m = q + 1 := ⟨m - 1, by omega⟩
          have q0 : decide ((0 : Int) < (m' : Int) + 1) = true := decide_eq_true (by omega)
          have hxk : x < k := by omega
          obtain ⟨f, hf⟩ : ∃ f, lft (rL T' (iv ws)) (iv ws).sum x = f := ⟨_, rfl⟩
          have HNX : Hid (∀ i, i < k → prtI (qL T' (iv ws)) (rL T' (iv ws)) (x + 1) i = (if i = bst f (k - 1) then prtI (qL T' (iv ws)) (rL T' (iv ws)) x i + 1 else prtI (qL T' (iv ws)) (rL T' (iv ws)) x i) ∧ rstQ (rL T' (iv ws)) (iv ws).sum (x + 1) i = (if i = bst f (k - 1) then rstQ (rL T' (iv ws)) (iv ws).sum x i - ((1 : Int) : Rat) else rstQ (rL T' (iv ws)) (iv ws).sum x i)) := fun i hi => by
            rw [← hf]
            exact ⟨prt_next HRB.out HN1.out (by rw [HLEN.out.1]; exact hxk) (by rw [HLEN.out.1]; exact hi), rst_next HS0.out HRB.out HN1.out (by rw [HLEN.out.1]; exact hxk) (by rw [HLEN.out.1]; exact hi)⟩
          have HTS : Hid (∀ i b, decide (0 < cmpQ (rstQ (rL T' (iv ws)) (iv ws).sum x i) (rstQ (rL T' (iv ws)) (iv ws).sum x b)) = decide (f b < f i)) := fun i b => by rw [← hf]; exact rst_test HS0.out x i b
          have HFx : Hid (∀ i, i < k → FitQ (k0 + 2) (rstQ (rL T' (iv ws)) (iv ws).sum x i) ∧ FitQ (k0 + 2) (rstQ (rL T' (iv ws)) (iv ws).sum (x + 1) i) ∧ Fit (k0 + k0 + 2) (prtI (qL T' (iv ws)) (rL T' (iv ws)) x i)) := fun i hi => ⟨HFR.out x i hi, HFR.out (x + 1) i hi, HFP.out x i hi⟩
          clear hf hm0
          obtain ⟨p0, hp0⟩ : ∃ p, prtI (qL T' (iv ws)) (rL T' (iv ws)) x = p := ⟨_, rfl⟩
          obtain ⟨p1, hp1⟩ : ∃ p, prtI (qL T' (iv ws)) (rL T' (iv ws)) (x + 1) = p := ⟨_, rfl⟩
          obtain ⟨r0, hr0⟩ : ∃ p, rstQ (rL T' (iv ws)) (iv ws).sum x = p := ⟨_, rfl⟩
          obtain ⟨r1, hr1⟩ : ∃ p, rstQ (rL T' (iv ws)) (iv ws).sum (x + 1) = p := ⟨_, rfl⟩
          rw [hp0, hr0] at HRS
          rw [hp0, hp1, hr0, hr1] at HNX
          rw [hr0] at HTS
          rw [hp0, hr0, hr1] at HFx
          have HP1 := Lib.hid (And.intro hp1 hr1)
          clear hp0 hp1 hr0 hr1
          go_wp2_with fail
          go_loopw [16, 15] (fun s b wr => ∃ i : Nat, 1 ≤ i ∧ i ≤ k ∧ s = .int .i64 (i : Int) ∧ b = .int .i64 ((bst f (i - 1) : Nat) : Int) ∧ Hid (RS w1 k P R p0 r0 k k wr)) (fun s _ _ => (k - intOf s).toNat)
          case atStart => exact ⟨1, by omega, by omega, rfl, rfl, HRS.out⟩
          case round =>
            clear HRS
            obtain ⟨i, hi1, hik, rfl, rfl, HRS⟩ := hrel
            by_cases hie : i = k
            · subst hie
              have q : decide ((i : Int) < (i : Int)) = false := decide_eq_false (by omega)
              obtain ⟨b, hb⟩ : ∃ b, bst f (i - 1) = b := ⟨_, rfl⟩
              rw [hb] at HNX ⊢
              have hbk : b < i := by have := bst_le f (i - 1); omega
              have cb := HRS.out.pr.cell (i := b) hbk
              obtain ⟨g1, g2⟩ := HNX.out b hbk
              rw [if_pos rfl] at g1 g2
              obtain ⟨ff0, ff1, ffp⟩ := HFx.out b hbk
              have KA := rAddR (a := canS (p0 b)) (b := ⟨#[49]⟩) (by have := ffp.size; omega) (by decide)
              rw [valS_canS, show valS ⟨#[49]⟩ = 1 from by decide, ← g1] at KA
              have KSb := rsubFR (K := k0 + 2) (p := r0 b) (q := ((1 : Int) : Rat)) ff0 (FitQ.mono (FitQ.int (k := 1) (z := 1) (by decide) (by decide)) (by omega)) (by omega)
              rw [← g2] at KSb
              rw [show ((1 : Int) : Rat) = (1 : Rat) from rfl] at KSb
              unfold FR at KSb
              have bk2 : (b : Int) < (i : Int) := by omega
              have hs := HRS.out.st
              obtain ⟨y1, hy1⟩ : ∃ y, canS (p1 b) = y := ⟨_, rfl⟩
              rw [hy1] at KA
              have HU1 : Hid (∀ W, RS w1 i P R p0 r0 i i W → RS w1 i P R p1 r0 i i (W.setCell ⟨P, b, none⟩ (.string y1))) := fun W h => h.updP hy1 (fun j hj hjb => by
                have := (HNX.out j hj).1
                rwa [if_neg hjb] at this)
              obtain ⟨x1, hx1⟩ : ∃ y, frN (r1 b) = y := ⟨_, rfl⟩
              obtain ⟨x2, hx2⟩ : ∃ y, frD (r1 b) = y := ⟨_, rfl⟩
              rw [hx1, hx2] at KSb
              have HU2 : Hid (∀ W, RS w1 i P R p1 r0 i i W → RS w1 i P R p1 r1 i i ((W.setCell ⟨R, b * 2, none⟩ (.string x1)).setCell ⟨R, b * 2 + 1, none⟩ (.string x2))) := fun W h => h.updR hx1 hx2 (fun j hj hjb => by
                have := (HNX.out j hj).2
                rwa [if_neg hjb] at this)
              generalize canS (p0 b) = y0 at *
              obtain ⟨u1, hu1⟩ : ∃ y, frN (r0 b) = y := ⟨_, rfl⟩
              obtain ⟨u2, hu2⟩ : ∃ y, frD (r0 b) = y := ⟨_, rfl⟩
              rw [hu1, hu2] at KSb
              have HU := Lib.hid (And.intro hu1 hu2)
              generalize frN (1 : Rat) = on at *
              generalize frD (1 : Rat) = od at *
              clear hb hy1 hx1 hx2 hu1 hu2 g1 g2 ff0 ff1 ffp
              go_wp2_with fail
              refine KA.step hs ?_
              intro w12 hs hb12
              have HRa := Lib.hid (HRS.out.up hb12)
              obtain ⟨vP, cP⟩ := HRa.out.pr.some hbk
              have fP := HRa.out.pr.frozen b
              have HRb := Lib.hid (HU1.out _ HRa.out)
              clear cb
              go_wp2_with fail
              clear cP fP HRa
              generalize w12.setCell ⟨P, b, none⟩ (.string y1) = w13 at *
              have hs13 := HRb.out.st
              obtain ⟨ca, cb⟩ := HRb.out.rr.cellQ (i := b) hbk
              rw [HU.out.1] at ca
              rw [HU.out.2] at cb
              have za := Kept.cell_of ca
              have zb := Kept.cell_of cb
              clear ca cb
              try go_wp2_with fail
              refine wp_region_kept_tail 9 (by kernel_rfl) (by kernel_rfl) ?_
              simp only [List.take_succ_cons, List.take_zero, List.drop_succ_cons, List.drop_zero]
              repeat (go_big_quiet_step (first | (with_reducible exact KO.kept hs13) | (with_reducible exact KSb.kept hs13)))
              refine wpQuiet_nil ?_
              rintro _ ⟨u, rfl⟩
              have HRc := Lib.hid (HRb.out.up u.low)
              clear za zb KSb
              generalize u.W = w14 at *
              obtain ⟨v0, c0⟩ := HRc.out.rr.some (i := b * 2) (by omega)
              obtain ⟨v1, c1'⟩ := HRc.out.rr.some (i := b * 2 + 1) (by omega)
              have f0 := HRc.out.rr.frozen (b * 2)
              have f1 := HRc.out.rr.frozen (b * 2 + 1)
              have HRd := Lib.hid (HU2.out _ HRc.out)
              go_wp2_with fail
              go_roundw
              case rel => exact ⟨m', x + 1, by omega, by go_num, by rw [HP1.out.1, HP1.out.2]; exact HRd.out⟩
              case measure => simp [intOf]
            · have hil : i < k := by omega
              have q : decide ((i : Int) < (k : Int)) = true := decide_eq_true (by omega)
              have qn : decide (i < k) = true := decide_eq_true hil
              obtain ⟨b, hb⟩ : ∃ b, bst f (i - 1) = b := ⟨_, rfl⟩
              rw [hb]
              have hbk : b < k := by have := bst_le f (i - 1); omega
              have HBN : Hid (bst f (i + 1 - 1) = if f b < f i then i else b) := by
                show _ = _
                obtain ⟨i', rfl⟩ : ∃ q, i = q + 1 := ⟨i - 1, by omega⟩
                rw [Nat.add_sub_cancel] at hb ⊢
                rw [← hb]
                rfl
              have KC := rcmpFR4 (HFx.out i hil).1 (HFx.out b hbk).1 (by omega)
              have q1 := HTS.out i b
              obtain ⟨ci0, ci1⟩ := HRS.out.rr.cellQ (i := i) hil
              obtain ⟨cb0, cb1⟩ := HRS.out.rr.cellQ (i := b) hbk
              have zi0 := Kept.cell_of ci0
              have zi1 := Kept.cell_of ci1
              have zb0 := Kept.cell_of cb0
              have zb1 := Kept.cell_of cb1
              have hs := HRS.out.st
              have il2 : (i : Int) < (k : Int) := by omega
              have bl2 : (b : Int) < (k : Int) := by omega
              unfold FR at KC
              generalize cmpQ (r0 i) (r0 b) = cv at *
              generalize frN (r0 i) = a1 at *
              generalize frD (r0 i) = a2 at *
              generalize frN (r0 b) = a3 at *
              generalize frD (r0 b) = a4 at *
              clear ci0 ci1 cb0 cb1 hb hie
              by_cases hlt : f b < f i
              · rw [decide_eq_true hlt] at q1
                have hbn := HBN.out
                rw [if_pos hlt] at hbn
                have HBN2 := Lib.hid hbn
                clear hlt hbn HBN
                go_wp2_with fail
                refine wp_region_kept (by kernel_rfl) (by kernel_rfl) ?_
                repeat (go_big_quiet_step (with_reducible exact KC.kept hs))
                refine wpQuiet_nil ?_
                rintro _ ⟨u, rfl⟩
                have HR2 := Lib.hid (HRS.out.up u.low)
                go_wp2_with fail
                go_roundw
                case rel => exact ⟨i + 1, by omega, by omega, by go_num, by rw [HBN2.out], HR2.out⟩
                case measure => simp [intOf]; omega
              · rw [decide_eq_false hlt] at q1
                have hbn := HBN.out
                rw [if_neg hlt] at hbn
                have HBN2 := Lib.hid hbn
                clear hlt hbn HBN
                go_wp2_with fail
                refine wp_region_kept (by kernel_rfl) (by kernel_rfl) ?_
                repeat (go_big_quiet_step (with_reducible exact KC.kept hs))
                refine wpQuiet_nil ?_
                rintro _ ⟨u, rfl⟩
                have HR2 := Lib.hid (HRS.out.up u.low)
                go_wp2_with fail
                go_roundw
                case rel => exact ⟨i + 1, by omega, by omega, by go_num, by rw [HBN2.out], HR2.out⟩
                case measure => simp [intOf]; omega
    · have hkl : k < n := by omega
      have q : decide ((k : Int) < (n : Int)) = true := decide_eq_true (by omega)
      have qn : decide (k < n) = true := decide_eq_true hkl
      have kl2 : (k : Int) < (n : Int) := by omega
      obtain ⟨i1, i2, i3, i4, i5, i6⟩ := HID.out k hkl
      have hs := HRS.out.st
      obtain ⟨bg, og, hA, lg, hcells⟩ := row_at (cs := qcells) (m := 2) qcells_len (by decide) (HG.out.on hs.2) i1
      injection hA with hA; injection hA with e1 e2
      subst e1 e2
      have f6 : FitQ (k0 + 2) (rstQ (rL T' (iv ws)) (iv ws).sum 0 k) := HFR.out 0 k hkl
      have KA := rabs4 i2 (by omega)
      rw [i3] at KA
      have KF := rfloorFR i4 (by omega)
      rw [i5] at KF
      have KP := rofI (HFQ.out k hkl) (by omega)
      have fP : FitQ (k0 + k0 + 2) ((at0 (qL T' (iv ws)) k : Int) : Rat) := FitQ.int ((HFQ.out k hkl).mono (by omega)) (by omega)
      have KSb := rsubFR (K := k0 + k0 + 2) i4 fP (by omega)
      rw [i6] at KSb
      have HPk : Hid (prtI (qL T' (iv ws)) (rL T' (iv ws)) 0 k = at0 (qL T' (iv ws)) k) := prt_zero _ _ _
      unfold FR at KA KF KP KSb
      generalize rstQ (rL T' (iv ws)) (iv ws).sum 0 = rq at *
      generalize prtI (qL T' (iv ws)) (rL T' (iv ws)) 0 = pq at *
      obtain ⟨fn, hfn⟩ : ∃ x, frN (rat (valS t * at0 (iv ws) k) (iv ws).sum) = x := ⟨_, rfl⟩
      obtain ⟨fd, hfd⟩ : ∃ x, frD (rat (valS t * at0 (iv ws) k) (iv ws).sum) = x := ⟨_, rfl⟩
      rw [hfn, hfd] at KA
      have y0 := hcells 0 _ rfl
      have y1 := hcells 1 _ rfl
      rw [hfn, Nat.zero_add, Nat.add_zero] at y0
      rw [hfd, Nat.zero_add] at y1
      obtain ⟨pn, hpn⟩ : ∃ x, canS (at0 (qL T' (iv ws)) k) = x := ⟨_, rfl⟩
      rw [hpn] at KF KP
      have HPN : Hid (canS (pq k) = pn) := by show _ = _; rw [HPk.out, hpn]
      obtain ⟨sn, hsn⟩ : ∃ x, frN (rq k) = x := ⟨_, rfl⟩
      obtain ⟨sd, hsd⟩ : ∃ x, frD (rq k) = x := ⟨_, rfl⟩
      rw [hsn, hsd] at KSb
      have HSN := Lib.hid (And.intro hsn hsd)
      generalize frN (rat (T' * at0 (iv ws) k) (iv ws).sum) = xn at *
      generalize frD (rat (T' * at0 (iv ws) k) (iv ws).sum) = xd at *
      generalize frN ((at0 (qL T' (iv ws)) k : Int) : Rat) = on2 at *
      generalize frD ((at0 (qL T' (iv ws)) k : Int) : Rat) = od2 at *
      clear hcells hfn hfd hpn hsn hsd i1 i2 i3 i4 i5 i6 f6 fP lg hkn
      go_wp2_with fail
      refine KA.step hs ?_
      intro w6 hs6 hb6
      have X := Bx.new w6 #[.string xn, .string xd] 36
      have HR6 := Lib.hid ((HRS.out.up hb6).up ((Below.refl _ w6).alloc (Nat.le_refl _) (.cells #[.string xn, .string xd] 36)))
      have hs7 := HR6.out.st
      have x0 := X.cell (i := 0) (v := .string xn) rfl
      have x1 := X.cell (i := 1) (v := .string xd) rfl
      have hXP : P ≠ w6.heap.size := by have := (HRS.out.up hb6).pr.lt; omega
      obtain ⟨bx, hbx⟩ : ∃ b, w6.heap.size = b := ⟨_, rfl⟩
      rw [hbx] at X x0 x1 hXP
      clear y0 y1
      go_wp2_with fail
      clear hbx
      generalize w6.alloc (.cells #[.string xn, .string xd] 36) = w7 at *
      try go_wp2_with fail
      refine KF.step hs7 ?_
      intro w8 hs8 hb8
      replace X := X.on hb8
      replace HR6 := Lib.hid (HR6.out.up hb8)
      obtain ⟨vP, cP⟩ := HR6.out.pr.some hkl
      have fP := HR6.out.pr.frozen k
      have HR7 := Lib.hid (HR6.out.setP hkl HPN.out)
      have X2 := X.other (c := P) (fun e => hXP e.symm) k (.string pn)
      clear x0 x1
      go_wp2_with fail
      clear cP fP HR6 X
      generalize w8.setCell ⟨P, k, none⟩ (.string pn) = w9 at *
      have hs9 := HR7.out.st
      have cP := HR7.out.pr.cell (i := k) (by omega)
      rw [HPN.out] at cP
      have z0 := X2.keeps (i := 0) (v := .string xn) rfl
      have z1 := X2.keeps (i := 1) (v := .string xd) rfl
      have z2 := Kept.cell_of cP
      clear cP
      try go_wp2_with fail
      refine wp_region_kept_tail 10 (by kernel_rfl) (by kernel_rfl) ?_
      simp only [List.take_succ_cons, List.take_zero, List.drop_succ_cons, List.drop_zero]
      repeat (go_big_quiet_step (first | (with_reducible exact KP.kept hs9) | (with_reducible exact KSb.kept hs9)))
      refine wpQuiet_nil ?_
      rintro _ ⟨u, rfl⟩
      have HR8 := Lib.hid (HR7.out.up u.low)
      clear z0 z1 z2 KP KSb
      generalize u.W = w10 at *
      obtain ⟨v0, c0⟩ := HR8.out.rr.some (i := k * 2) (by omega)
      obtain ⟨v1, c1'⟩ := HR8.out.rr.some (i := k * 2 + 1) (by omega)
      have f0 := HR8.out.rr.frozen (k * 2)
      have f1 := HR8.out.rr.frozen (k * 2 + 1)
      have HR9 := Lib.hid (HR8.out.setR hkl HSN.out.1 HSN.out.2)
      go_wp2_with fail
      go_roundw
      case rel => exact ⟨k + 1, by omega, by go_num, HR9.out⟩
      case measure => simp [intOf]; omega
end Go.Proofs.YtpipkeplhkccoaaGreatDoor
namespace Go.Proofs.YtpipkeplhkccoaaGreatDoor
open Go.RowKit Go.Shelf SP Dec QQ

set_option maxRecDepth 100000 in
set_option maxHeartbeats 4000000 in
theorem rsplit_any {A : Option Addr} {n c k0 : Nat} {t : ByteArray} {ws : List ByteArray} (hn : ws.length = n) (h12 : n ≤ 12 ∨ 1000 < n) (hm : n ≤ 4611686018427387904) (hk0 : k0 ≤ 2000) (ht : t.size ≤ k0) (hz : ∀ s ∈ ws, s.size ≤ k0) (w : World) (hg : Gl w) (hr : Row w A (ws.map sv)) :
    Calls Tryz.prog 19 #[.string t, .slice A n c] w fun e w' => ∃ v, e = .returned (.tuple #[v, .int .i64 (alE t ws)]) ∧ OutG icells 22 1 w.heap.size w' v (alS t ws).length (alS t ws) ∧ Below w.heap.size w w' := by
  by_cases he : alE t ws = 0
  · have h2 := (alE_zero.1 he).len
    have e : alS t ws = splL (valS t) (iv ws) := if_pos he
    rw [e, he, splL_len, iv_len, hn]
    exact rsplit_few hn (by omega) hk0 ht hz he w hg hr
  · have e : alS t ws = [] := if_neg he
    rw [e]
    have hs := St.refl hg
    have HR := Lib.hid hr
    have KI := Lib.hid (fun (u : World) (hg : Gl u) (hr : Row u A (ws.map sv)) => rideal_any (A := A) (c := c) hn h12 hm (by omega) ht hz u hg hr)
    have q : (alE t ws != 0) = true := by simpa using he
    generalize alE t ws = ee at *
    clear hn hr hz ht e
    go_enter Tryz.func19, Tryz.ntmps19
    go_wp2_with fail
    refine (KI.out w hs.gl HR.out).mono ?_
    rintro e w1 ⟨v, rfl, hov, hb1⟩
    obtain ⟨A1, c1, rfl, hrow⟩ := hov.row
    replace hs := hs.on hb1
    clear hov hrow
    go_wp2_with fail
    go_ret2
    exact ⟨_, rfl, ⟨rfl, World.ownsRow_nil _ _ _ _⟩, hs.2⟩
theorem rat_adds {a b S : Int} (h : 0 < S) : rat a S + rat b S = rat (a + b) S := by
  rw [rat_of (by omega), rat_of (by omega), rat_of (by omega), Rat.intCast_add]
  have := intCast_ne (d := S) (by omega)
  grind
/-- the sum of the first ideal parts -/
theorem ideal_step (T : Int) {ws : List Int} (h : 0 < ws.sum) {k : Nat} (hk : k < ws.length) : rat (T * (ws.take k).sum) ws.sum + rat (T * at0 ws k) ws.sum = rat (T * (ws.take (k + 1)).sum) ws.sum := by
  rw [rat_adds h, take_sum_succ ws hk, Int.mul_add]
set_option maxRecDepth 100000 in
set_option maxHeartbeats 4000000 in
theorem rrun_few {A : Option Addr} {n c k0 : Nat} {t : ByteArray} {ws : List ByteArray} (hn : ws.length = n) (h12 : n ≤ 12) (hk0 : k0 ≤ 2000) (ht : t.size ≤ k0) (hz : ∀ s ∈ ws, s.size ≤ k0) (he : alE t ws = 0) (w : World) (hg : Gl w) (hr : Row w A (ws.map sv)) :
    Calls Tryz.prog 23 #[.string t, .slice A n c] w fun e w' => ∃ v, e = .returned (.tuple #[v, .int .i64 0]) ∧ OutG icells 22 1 w.heap.size w' v n (runL (valS t) (iv ws) n) ∧ Below w.heap.size w w' := by
  have hs := St.refl hg
  have HR := Lib.hid hr
  have ho := alE_zero.1 he
  have hil : (iv ws).length = n := by rw [iv_len, hn]
  have h0 : 0 < n := by have := ho.len0; omega
  have KI := Lib.hid (fun (u : World) (hg : Gl u) (hr : Row u A (ws.map sv)) => rideal_few (A := A) (c := c) hn h12 (by omega) ht hz he u hg hr)
  have hS := ho.ok.pos
  have fT : Fit k0 (valS t) := Fit.val ht
  have fS : Fit (k0 + 2) (iv ws).sum := whole_fit hz (by omega)
  have HFQ : Hid (∀ k, FitQ (k0 + k0 + 4) (rat (valS t * ((iv ws).take k).sum) (iv ws).sum)) := fun k => FitQ.mono (FitQ.rat (k := k0 + (k0 + 2)) (m := k0 + 2) (fT.mul (take_fit hz (by omega))) fS (by omega)) (by omega)
  have HFR : Hid (∀ k, Fit (k0 + k0 + 4) (runQ (valS t) (iv ws) k)) := fun k => ((fT.mul (take_fit (m := k) hz (by omega))).fdiv).mono (by omega)
  have HID : Hid (∀ k, k < n → (idL (valS t) (iv ws))[k]? = some (rat (valS t * at0 (iv ws) k) (iv ws).sum) ∧ FitQ (k0 + k0 + 4) (rat (valS t * at0 (iv ws) k) (iv ws).sum) ∧ rat (valS t * ((iv ws).take k).sum) (iv ws).sum + rat (valS t * at0 (iv ws) k) (iv ws).sum = rat (valS t * ((iv ws).take (k + 1)).sum) (iv ws).sum) := fun k hk => by
    have hk' : k < (iv ws).length := by rw [hil]; exact hk
    exact ⟨idL_at hk', FitQ.mono (FitQ.rat (k := k0 + k0) (m := k0 + 2) (fT.mul (iv_fit hz _ (List.mem_of_getElem? (at0_lt hk')))) fS (by omega)) (by omega), ideal_step _ hS hk'⟩
  have HFL : Hid (∀ k, (rat (valS t * ((iv ws).take k).sum) (iv ws).sum).floor = runQ (valS t) (iv ws) k) := fun k => by
    unfold runQ
    rw [← floor_rat (by omega)]
  have HRZ : Hid (canS (runQ (valS t) (iv ws) 0) = ⟨#[]⟩ ∧ frN (rat (valS t * ((iv ws).take 0).sum) (iv ws).sum) = ⟨#[]⟩ ∧ frD (rat (valS t * ((iv ws).take 0).sum) (iv ws).sum) = ⟨#[]⟩) := by
    have e : rat (valS t * ((iv ws).take 0).sum) (iv ws).sum = 0 := by
      rw [List.take_zero, List.sum_nil, Int.mul_zero]
      exact rat_eq_zero.2 rfl
    exact ⟨by rw [runQ_zero]; exact canS_zero, by rw [e]; exact frN_zero, by rw [e]; exact frD_zero⟩
  clear hr hil hS fT fS hn ht hz he ho
  go_enter Tryz.func23, Tryz.ntmps23
  go_wp2_with fail
  refine (KI.out w hs.gl HR.out).mono ?_
  rintro e w1 ⟨v, rfl, hov, hb1⟩
  obtain ⟨g, c1, rfl, hrow⟩ : ∃ g c, v = .slice (some ⟨g, 0, none⟩) n c ∧ Row w1 (some ⟨g, 0, none⟩) (flatG qcells (idL (valS t) (iv ws))) := by
    obtain ⟨A', c', e, hr⟩ := hov.row
    rcases hov.2.2 with ⟨_, h1⟩ | ⟨g, cap, cur, rfl, e2, e3, e4, e5, e6, e7⟩
    · omega
    · injection e with e8 e9 e10
      subst e8
      exact ⟨g, cap, rfl, hr⟩
  have HW1 := Lib.hid (hs.on hb1)
  have HG := Lib.hid hrow
  have hs1 : St w1 w1 := St.refl HW1.out.gl
  have hs2 := hs1.alloc (.cells #[.string ⟨#[]⟩, .string ⟨#[]⟩] 36)
  have X9 := Lib.hid (Bx.new w1 #[.string ⟨#[]⟩, .string ⟨#[]⟩] 36)
  clear hov hrow hb1 hs
  go_wp2_with fail
  have HSZ : Hid ((w1.alloc (.cells #[.string ⟨#[]⟩, .string ⟨#[]⟩] 36)).heap.size = w1.heap.size + 1) := World.size_alloc _ _
  obtain ⟨b9, hb9⟩ : ∃ b, w1.heap.size = b := ⟨_, rfl⟩
  have HB9 := Lib.hid hb9
  rw [hb9] at X9 HSZ ⊢
  clear hb9
  generalize w1.alloc (.cells #[.string ⟨#[]⟩, .string ⟨#[]⟩] 36) = w2 at *
  try go_wp2_with fail
  go_loopw [11, 8, 10] (fun s v bf wr => ∃ k : Nat, k ≤ n ∧ s = .int .i64 (k : Int) ∧ bf = .string (canS (runQ (valS t) (iv ws) k)) ∧ St w1 wr ∧ Hid (Bx wr b9 #[.string (frN (rat (valS t * ((iv ws).take k).sum) (iv ws).sum)), .string (frD (rat (valS t * ((iv ws).take k).sum) (iv ws).sum))] ∧ World.ownsRow wr (b9 + 1) 22 1 v k (flatG icells (runL (valS t) (iv ws) k)))) (fun s _ _ _ => (n - intOf s).toNat)
  case atStart => exact ⟨0, by omega, rfl, by rw [HRZ.out.1], hs2, by rw [HRZ.out.2.1, HRZ.out.2.2]; exact X9.out, World.ownsRow_nil _ _ _ _⟩
  case round =>
    clear hs2 X9 HSZ
    obtain ⟨k, hk, rfl, rfl, hs, HB⟩ := hrel
    by_cases hkn : k = n
    · subst hkn
      have q : decide ((k : Int) < (k : Int)) = false := decide_eq_false (by omega)
      have hlow : w.heap.size ≤ b9 + 1 := by have := HW1.out.2.size; have := HB9.out; omega
      go_wp2_with fail
      go_ret2
      exact ⟨_, rfl, ⟨runL_len _ _ _, own_low HB.out.2 hlow⟩, (HW1.out.on hs.2).2⟩
    · have hkl : k < n := by omega
      have q : decide ((k : Int) < (n : Int)) = true := decide_eq_true (by omega)
      have qn : decide (k < n) = true := decide_eq_true hkl
      have kl2 : (k : Int) < (n : Int) := by omega
      obtain ⟨i1, i2, i3⟩ := HID.out k hkl
      obtain ⟨bg, og, hA, lg, hcells⟩ := row_at (cs := qcells) (m := 2) qcells_len (by decide) (HG.out.on hs.2) i1
      injection hA with hA; injection hA with e1 e2
      subst e1 e2
      have KAd := raddFR (HFQ.out k) i2 (by omega)
      rw [i3] at KAd
      have KFl := rfloorFR (HFQ.out (k + 1)) (by omega)
      rw [HFL.out] at KFl
      have KSb := rSubR (a := canS (runQ (valS t) (iv ws) (k + 1))) (b := canS (runQ (valS t) (iv ws) k)) (by have := (HFR.out (k + 1)).size; omega) (by have := (HFR.out k).size; omega)
      rw [valS_canS, valS_canS] at KSb
      have HSU : Hid (runL (valS t) (iv ws) (k + 1) = runL (valS t) (iv ws) k ++ [runQ (valS t) (iv ws) (k + 1) - runQ (valS t) (iv ws) k]) := runL_succ _ _ _
      unfold FR at KAd KFl
      obtain ⟨zd, hzd⟩ : ∃ x, canS (runQ (valS t) (iv ws) (k + 1) - runQ (valS t) (iv ws) k) = x := ⟨_, rfl⟩
      rw [hzd] at KSb
      have HZD : Hid (icells (runQ (valS t) (iv ws) (k + 1) - runQ (valS t) (iv ws) k) = [.string zd]) := by show _ = _; unfold icells; rw [hzd]
      obtain ⟨qd, hqd⟩ : ∃ x, canS (runQ (valS t) (iv ws) (k + 1)) = x := ⟨_, rfl⟩
      obtain ⟨bf, hbf⟩ : ∃ x, canS (runQ (valS t) (iv ws) k) = x := ⟨_, rfl⟩
      rw [hqd] at KFl
      rw [hqd, hbf] at KSb
      rw [hbf]
      have HQD := Lib.hid hqd
      obtain ⟨s1, hs1'⟩ : ∃ x, frN (rat (valS t * ((iv ws).take k).sum) (iv ws).sum) = x := ⟨_, rfl⟩
      obtain ⟨s2, hs2'⟩ : ∃ x, frD (rat (valS t * ((iv ws).take k).sum) (iv ws).sum) = x := ⟨_, rfl⟩
      obtain ⟨s3, hs3'⟩ : ∃ x, frN (rat (valS t * ((iv ws).take (k + 1)).sum) (iv ws).sum) = x := ⟨_, rfl⟩
      obtain ⟨s4, hs4'⟩ : ∃ x, frD (rat (valS t * ((iv ws).take (k + 1)).sum) (iv ws).sum) = x := ⟨_, rfl⟩
      rw [hs1', hs2', hs3', hs4'] at KAd
      rw [hs3', hs4'] at KFl
      rw [hs1', hs2'] at HB
      have HS34 := Lib.hid (And.intro hs3' hs4')
      obtain ⟨fn, hfn⟩ : ∃ x, frN (rat (valS t * at0 (iv ws) k) (iv ws).sum) = x := ⟨_, rfl⟩
      obtain ⟨fd, hfd⟩ : ∃ x, frD (rat (valS t * at0 (iv ws) k) (iv ws).sum) = x := ⟨_, rfl⟩
      rw [hfn, hfd] at KAd
      have y0 := hcells 0 _ rfl
      have y1 := hcells 1 _ rfl
      rw [hfn, Nat.zero_add, Nat.add_zero] at y0
      rw [hfd, Nat.zero_add] at y1
      have z0 := Kept.cell_of y0
      have z1 := Kept.cell_of y1
      have z2 := HB.out.1.keeps (i := 0) (v := .string s1) rfl
      have z3 := HB.out.1.keeps (i := 1) (v := .string s2) rfl
      generalize runL (valS t) (iv ws) k = CL at *
      clear hcells hfn hfd hs1' hs2' hs3' hs4' hqd hbf hzd i1 i2 i3 lg hkn y0 y1
      go_wp2_with fail
      refine wp_region_kept_tail 6 (by kernel_rfl) (by kernel_rfl) ?_
      simp only [List.take_succ_cons, List.take_zero, List.drop_succ_cons, List.drop_zero]
      repeat (go_big_quiet_step (with_reducible exact KAd.kept hs))
      refine wpQuiet_nil ?_
      rintro _ ⟨u, rfl⟩
      replace hs := hs.kept u
      have X9 := HB.out.1.kept u
      have HO := Lib.hid (own_below HB.out.2 u.low)
      clear z0 z1 z2 z3 KAd HB
      generalize u.W = w3 at *
      have c0 := X9.cell (i := 0) (v := .string s1) rfl
      have c1' := X9.cell (i := 1) (v := .string s2) rfl
      have f0 := X9.frozen 0
      have f1 := X9.frozen 1
      have hlo9 : w1.heap.size ≤ b9 := by have := HB9.out; omega
      have X92 := (X9.set 0 (.string s3)).set 1 (.string s4)
      replace hs := (hs.set (b := b9) hlo9 0 (.string s3)).set (b := b9) hlo9 1 (.string s4)
      have HO2 := Lib.hid ((HO.out.kept (grown_cellW w3 b9 0 (.string s3)) (.inr (fun e => by have := (HO.out.lt _ e).1; omega))).kept (grown_cellW (w3.setCell ⟨b9, 0, none⟩ (.string s3)) b9 1 (.string s4)) (.inr (fun e => by have := (HO.out.lt _ e).1; omega)))
      have x0 := X92.cell (i := 0) (v := .string s3) rfl
      have x1 := X92.cell (i := 1) (v := .string s4) rfl
      go_wp2_with fail
      clear c0 c1' f0 f1 x0 x1 X9 HO
      generalize (w3.setCell ⟨b9, 0, none⟩ (.string s3)).setCell ⟨b9, 1, none⟩ (.string s4) = w4 at *
      have x0 := X92.cell (i := 0) (v := .string s3) rfl
      have x1 := X92.cell (i := 1) (v := .string s4) rfl
      try go_wp2_with fail
      refine KFl.step hs ?_
      intro w5 hs hb5
      replace X92 := X92.on hb5
      replace HO2 := Lib.hid (own_below HO2.out hb5)
      clear x0 x1
      go_wp2_with fail
      refine KSb.step hs ?_
      intro w6 hs hb6
      have HX := Lib.hid (X92.on hb6)
      replace HO2 := Lib.hid (own_below HO2.out hb6)
      obtain ⟨i0, hi, hz0, hz1, hz2⟩ := info_parts infoI4
      have Hi := Lib.hid hi
      have Hz0 := Lib.hid hz0
      have Hz1 := Lib.hid hz1
      have Hz2 := Lib.hid hz2
      have hsz : b9 + 1 ≤ w6.heap.size := HX.out.lt
      clear hi hz0 hz1 hz2 X92
      go_wp2_with (at_builtin; refine wpList_append_any _ rfl (.tmp 37) (.tmp 41) 25 rfl (b9 + 1) 22 i0 (.string ⟨#[]⟩) 1 16 (by kernel_rfl) Hi.out Hz0.out Hz1.out Hz2.out rfl (by omega) _ k (flatG icells CL) rfl (HO2.out.alloc _) (w6.heap.size + 1) (some ⟨w6.heap.size, 0, none⟩) 1 1 [.string zd] rfl (reads_row w6 _ [.string zd]) (by intro u hu; simp at hu; subst hu; rfl) (by unfold maxLen; omega) (by omega) (by simp at hsz ⊢; omega) ?_; intro v8 w8 hown8 hg8 _; have HO8 := Lib.hid hown8; have HG8 := Lib.hid hg8; clear hown8 hg8)
      have hs8 : St w1 w8 := ⟨hs.1, (hs.2.alloc hs.2.size _).grown HG8.out (by have := hs.2.size; simp; omega) (fun g hg => by have := (HO2.out.lt g hg).1; omega)⟩
      have HX8 := Lib.hid ((HX.out.alloc (.cells #[.string zd] 22)).grown HG8.out (fun e => by have := (HO2.out.lt _ e.symm).1; omega))
      try go_wp2_with fail
      go_roundw
      case rel =>
        refine ⟨k + 1, by omega, by go_num, by rw [HQD.out], hs8, by rw [HS34.out.1, HS34.out.2]; exact HX8.out, ?_⟩
        rw [HSU.out, flatG_snoc, HZD.out]
        exact HO8.out
      case measure => simp [intOf]; omega
set_option maxRecDepth 100000 in
set_option maxHeartbeats 4000000 in
theorem rrun_any {A : Option Addr} {n c k0 : Nat} {t : ByteArray} {ws : List ByteArray} (hn : ws.length = n) (h12 : n ≤ 12 ∨ 1000 < n) (hm : n ≤ 4611686018427387904) (hk0 : k0 ≤ 2000) (ht : t.size ≤ k0) (hz : ∀ s ∈ ws, s.size ≤ k0) (w : World) (hg : Gl w) (hr : Row w A (ws.map sv)) :
    Calls Tryz.prog 23 #[.string t, .slice A n c] w fun e w' => ∃ v, e = .returned (.tuple #[v, .int .i64 (alE t ws)]) ∧ OutG icells 22 1 w.heap.size w' v (alR t ws).length (alR t ws) ∧ Below w.heap.size w w' := by
  by_cases he : alE t ws = 0
  · have h2 := (alE_zero.1 he).len
    have e : alR t ws = runL (valS t) (iv ws) n := by unfold alR; rw [if_pos he, hn]
    rw [e, he, runL_len]
    exact rrun_few hn (by omega) hk0 ht hz he w hg hr
  · have e : alR t ws = [] := if_neg he
    rw [e]
    have hs := St.refl hg
    have HR := Lib.hid hr
    have KI := Lib.hid (fun (u : World) (hg : Gl u) (hr : Row u A (ws.map sv)) => rideal_any (A := A) (c := c) hn h12 hm (by omega) ht hz u hg hr)
    have q : (alE t ws != 0) = true := by simpa using he
    generalize alE t ws = ee at *
    clear hn hr hz ht e
    go_enter Tryz.func23, Tryz.ntmps23
    go_wp2_with fail
    refine (KI.out w hs.gl HR.out).mono ?_
    rintro e w1 ⟨v, rfl, hov, hb1⟩
    obtain ⟨A1, c1, rfl, hrow⟩ := hov.row
    replace hs := hs.on hb1
    clear hov hrow
    go_wp2_with fail
    go_ret2
    exact ⟨_, rfl, ⟨rfl, World.ownsRow_nil _ _ _ _⟩, hs.2⟩
end Go.Proofs.YtpipkeplhkccoaaGreatDoor
