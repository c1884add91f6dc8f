/- Fractions: the contracts of Parts and Print. Conditions: numbers of up to a hundred thousand bytes. Parts of years: the contracts of the package daycount's small functions. Conditions: days of the calendar. Parts of years: the conventions as closures, and the contracts of find, check, Days and Fraction. Conditions: days of the calendar. Parts of years: the conventions as closures, and the contracts of find, check, Days and Fraction. Conditions: days of the calendar. Parts of years: finding a convention. No condition. Parts of years: checking arguments. Conditions: days of the calendar. Parts of years: the closures over a convention's days, and calendar years. Conditions: days of the calendar. Parts of years: the sum over calendar years. Conditions: days of the calendar. Parts of years: the contract of Fraction. Conditions: machine integers. Parts of years: the contract of Fraction in one. Conditions: none on the machine integers. Parts of years: the contract of Days; the examples of the chapter. Conditions: machine integers. Parts of years: the examples of the chapter, and the laws' walks. Condition: the library's table and error lie as the program's text lays them. -/
import Derived.Test.YtahpbnmbphobgaaGreatDoorFc
import Derived.Test.YtahpbnmbphobgaaGreatDoorDg
import Derived.Test.YtahpbnmbphobgaaGreatDoorDd
namespace Go.Proofs.YtahpbnmbphobgaaGreatDoor
open Go.RowKit Go.Shelf Dec
open QQ

theorem PrtR {a : ByteArray} (h : a.size ≤ 1000000) : Ret 254 #[.string a] (.string (str (prt (valS a)))) := fun w _ => print_any a w (by omega)
set_option maxHeartbeats 1000000 in
theorem PartsF {n d : ByteArray} {q : Rat} (h : Vq n d q) : Ret 158 #[FV n d] (.tuple #[.string (canS q.num), .string (canS q.den)]) := by
  intro w hg
  have hs := St.refl hg
  obtain ⟨v1, v2, f1, f2⟩ := h.vs
  have K1 := parts_any (n := n) (d := d) (by have := h.2.2; omega)
  have K2 := reduced_any v1 v2 (by have := h.2.1; omega) (by have := dn_size d; have := h.2.2; omega) (dn_ne d)
  rw [dn_rat, h.1] at K2
  unfold FV at K1 ⊢
  generalize canS q.num = rn at *
  generalize canS (q.den : Int) = rd at *
  generalize dn d = e at *
  clear v1 v2 f1 f2
  go_enter Tryz.func158, Tryz.ntmps158
  go_wp2_with fail
  refine K1.step (hs.alloc _) ?_
  intro w1 hs _
  go_wp2_with fail
  refine K2.step hs ?_
  intro w2 hs _
  go_wp2_with fail
  go_ret2
  exact ⟨rfl, hs.2⟩
end Go.Proofs.YtahpbnmbphobgaaGreatDoor
namespace Go.Proofs.YtahpbnmbphobgaaGreatDoor
open Go.RowKit Go.Shelf Dec
open QQ


theorem OfR {n : Int} (h0 : -9223372036854775808 ≤ n) (h1 : n ≤ 9223372036854775807) : Ret 71 #[.int .i64 n] (.string (canS n)) := fun w hg => Of_any n w h0 h1 hg


end Go.Proofs.YtahpbnmbphobgaaGreatDoor
namespace Go.Proofs.YtahpbnmbphobgaaGreatDoor
open Go.RowKit Go.Shelf Dec
open QQ

theorem RetI.kept {I : World → Prop} {f : FuncId} {args : Array Value} {V : Value} {w0 w : World} (h : RetI I f args V) (hs : St w0 w) (hI : ∀ u : Kept w, I u.W) {u : Kept w} : Calls Tryz.prog f args u.W fun e w'' => e = .returned V ∧ ∃ u' : Kept w, w'' = u'.W :=
  (h u.W (hs.gl.below u.low) (hI u)).mono fun _ w' ⟨he, hb⟩ => ⟨he, ⟨⟨w', u.low.trans (hb.mono u.low.size)⟩, rfl⟩⟩


theorem Bx.ne {w : World} {b c : Nat} {cs ds : Array Value} (h : Bx w b cs) (h2 : Bx w c ds) (hs : cs.size ≠ ds.size) : b ≠ c := by
  rintro rfl
  obtain ⟨T, h⟩ := h
  obtain ⟨T2, h2⟩ := h2
  rw [h] at h2
  injection h2 with e
  injection e with e1 e2
  exact hs (by rw [e1])
theorem fill12 (w : World) (b : Nat) (v0 v1 v2 v3 v4 v5 v6 v7 v8 v9 v10 v11 : Value) (B : Bx w b #[.nilFunc, .nilFunc, .nilFunc, .nilFunc, .nilFunc, .nilFunc, .nilFunc, .nilFunc, .nilFunc, .nilFunc, .nilFunc, .nilFunc]) :
    ∃ W, ((((((((((((w.setCell ⟨b, 0, none⟩ v0).setCell ⟨b, 1, none⟩ v1).setCell ⟨b, 2, none⟩ v2).setCell ⟨b, 3, none⟩ v3).setCell ⟨b, 4, none⟩ v4).setCell ⟨b, 5, none⟩ v5).setCell ⟨b, 6, none⟩ v6).setCell ⟨b, 7, none⟩ v7).setCell ⟨b, 8, none⟩ v8).setCell ⟨b, 9, none⟩ v9).setCell ⟨b, 10, none⟩ v10).setCell ⟨b, 11, none⟩ v11) = W ∧ Bx W b #[v0, v1, v2, v3, v4, v5, v6, v7, v8, v9, v10, v11] ∧ (∀ c ds, Bx w c ds → c ≠ b → Bx W c ds) ∧ (∀ base w0, base ≤ b → Below base w0 w → Below base w0 W) :=
  by
  refine ⟨_, rfl, ?_, fun c ds h hc => ((((((((((((h.other hc 0 v0).other hc 1 v1).other hc 2 v2).other hc 3 v3).other hc 4 v4).other hc 5 v5).other hc 6 v6).other hc 7 v7).other hc 8 v8).other hc 9 v9).other hc 10 v10).other hc 11 v11), fun base w0 hl h => ((((((((((((h.setCell hl v0).setCell hl v1).setCell hl v2).setCell hl v3).setCell hl v4).setCell hl v5).setCell hl v6).setCell hl v7).setCell hl v8).setCell hl v9).setCell hl v10).setCell hl v11)⟩
  have h := ((((((((((((B.set 0 v0).set 1 v1).set 2 v2).set 3 v3).set 4 v4).set 5 v5).set 6 v6).set 7 v7).set 8 v8).set 9 v9).set 10 v10).set 11 v11)
  simp only [List.setIfInBounds_toArray, List.set_cons_zero, List.set_cons_succ] at h
  exact h
theorem bx_two (w : World) (T T2 T3 : TypeId) (c0 c1 c2 : Array Value) : ∃ W, ((w.alloc (.cells c0 T)).alloc (.cells c1 T2)).alloc (.cells c2 T3) = W ∧ Bx W w.heap.size c0 ∧ Bx W (w.heap.size + 1) c1 ∧ Bx W (w.heap.size + 1 + 1) c2 ∧ Below w.heap.size w W :=
  ⟨_, rfl, ((Bx.new w c0 T).alloc _).alloc _, (Bx.new1 w _ c1 T2).alloc _, Bx.new2 w _ _ c2 T3, (((Below.refl _ w).alloc (Nat.le_refl _) _).alloc (by simp) _).alloc (by simp; omega) _⟩


end Go.Proofs.YtahpbnmbphobgaaGreatDoor
namespace Go.Proofs.YtahpbnmbphobgaaGreatDoor
open Go.RowKit Go.Shelf Dec
open QQ



end Go.Proofs.YtahpbnmbphobgaaGreatDoor
namespace Go.Proofs.YtahpbnmbphobgaaGreatDoor
open Go.RowKit Go.Shelf Dec
open QQ







end Go.Proofs.YtahpbnmbphobgaaGreatDoor
namespace Go.Proofs.YtahpbnmbphobgaaGreatDoor
open Go.RowKit Go.Shelf Dec
open QQ







end Go.Proofs.YtahpbnmbphobgaaGreatDoor
namespace Go.Proofs.YtahpbnmbphobgaaGreatDoor
open Go.RowKit Go.Shelf Dec
open QQ

end Go.Proofs.YtahpbnmbphobgaaGreatDoor
namespace Go.Proofs.YtahpbnmbphobgaaGreatDoor
open Go.RowKit Go.Shelf Dec
open QQ

/-- what the loop of calendar keeps in memory: the result's and the sum's cells -/
def CalIs (w : World) (s : Rat) (wr : World) : Prop := Bx wr w.heap.size #[.string ⟨#[]⟩, .string ⟨#[]⟩] ∧ Bx wr (w.heap.size + 1) #[.string (frN s), .string (frD s)]
theorem cal_step {n m nn e y : Nat} {L : Nat} (hm : m < 109573) (h2 : nn < m) (hy : yN nn = y) (hL : ylen y = L) (he : min m (beginN y + L) = e) (h0 : 1900 ≤ y) :
    actQ nn - actQ n + rat ((e : Int) - (nn : Int)) (L : Int) = actQ e - actQ n ∧ nn < e ∧ e ≤ m := by
  obtain ⟨s1, s2, s3, s4⟩ := year_spec (n := nn) (by omega)
  rw [hy] at s1 s2
  have hb := begin_next h0
  rw [hL] at hb
  have hst := actQ_step (a := nn) (e := e) hy (by omega) (by omega) (by omega)
  rw [hL] at hst
  refine ⟨?_, by omega, by omega⟩
  rw [← hst]
  grind
theorem act_fit2 {n m : Nat} (h : n < 109573) (h' : m < 109573) : FitQ 13 (actQ n - actQ m) := (FitQ.sub (act_fit h) (act_fit h')).mono (by omega)
theorem step_fit {d L : Int} (h : d.natAbs < 1000000) (h2 : L.natAbs < 1000) : FitQ 6 (rat d L) := by
  obtain ⟨p6, _, p3⟩ := pow10
  exact (FitQ.rat (k := 6) (m := 3) (by rw [p6]; exact h) (by rw [p3]; exact h2) (by omega)).mono (by omega)

end Go.Proofs.YtahpbnmbphobgaaGreatDoor
namespace Go.Proofs.YtahpbnmbphobgaaGreatDoor
open Go.RowKit Go.Shelf Dec
open QQ

/-- the convention's part of a year returns q -/
theorem stays_and {I J : World → Prop} (h : Stays I) (h2 : Stays J) : Stays (fun w => I w ∧ J w) := fun w w' hi hb => ⟨h w w' hi.1 hb, h2 w w' hi.2 hb⟩
theorem stays_bx (b : Nat) (cs : Array Value) : Stays (fun w => Bx w b cs) := fun _ _ h hb => h.on hb
end Go.Proofs.YtahpbnmbphobgaaGreatDoor
namespace Go.Proofs.YtahpbnmbphobgaaGreatDoor
open Go.RowKit Go.Shelf Dec
open QQ

end Go.Proofs.YtahpbnmbphobgaaGreatDoor
namespace Go.Proofs.YtahpbnmbphobgaaGreatDoor
open Go.RowKit Go.Shelf Dec
open QQ



theorem aw8a : IsDate 45320 2024 1 31 := ⟨by decide, by decide, by decide, by decide, by decide, by decide, by decide⟩
theorem aw8b : IsDate 45350 2024 3 1 := ⟨by decide, by decide, by decide, by decide, by decide, by decide, by decide⟩
theorem aw8c : IsDate 45106 2023 7 1 := ⟨by decide, by decide, by decide, by decide, by decide, by decide, by decide⟩
theorem aw8d : IsDate 45472 2024 7 1 := ⟨by decide, by decide, by decide, by decide, by decide, by decide, by decide⟩
theorem aw8x : tN 45320 45350 = 31 := by
  have a := aw8a.fns
  have b := aw8b.fns
  unfold tN
  rw [a.1, a.2.1, a.2.2, b.1, b.2.1, b.2.2]
  decide
theorem aw8q : actQ 45472 - actQ 45106 = rat 66887 66795 := by
  rw [actQ_in (y := 2024) (by decide) (by decide) (by decide) (by decide), actQ_in (y := 2023) (by decide) (by decide) (by decide) (by decide)]
  decide +kernel
end Go.Proofs.YtahpbnmbphobgaaGreatDoor
namespace Go.Proofs.YtahpbnmbphobgaaGreatDoor
open Go.RowKit Go.Shelf Dec
open QQ

@[local go_sem high] theorem run_max_seven {P : Program} (w : World) (ts : Array TypeId) (t : TypeId) : (Builtin.max_ ts t #[.int .i64 0, .int .i64 0, .int .i64 0, .int .i64 0, .int .i64 0, .int .i64 0, .int .i64 0]).run P w = .ok (.int .i64 0) w := by
  rfl
theorem aw8f : fracR 5 19539 19905 = (rat 66887 66795, 0) := by
  rw [fracR_in (n := 45106) (m := 45472) (by decide) (by decide) ⟨by decide, by decide⟩ ⟨by decide, by decide⟩ (by decide)]
  unfold partQ
  rw [if_pos rfl, aw8q]
theorem aw8n : frN (rat 66887 66795) = ⟨#[54, 54, 56, 56, 55]⟩ ∧ frD (rat 66887 66795) = ⟨#[54, 54, 55, 57, 53]⟩ ∧ (rat 66887 66795).den ≠ 1 ∧ FitQ 13 (rat 66887 66795) ∧ str (prt (rat 66887 66795).num) ++ ⟨#[47]⟩ ++ str (prt ((rat 66887 66795).den : Int)) = ⟨#[54, 54, 56, 56, 55, 47, 54, 54, 55, 57, 53]⟩ :=
  ⟨by decide +kernel, by decide +kernel, by decide +kernel, ⟨by decide +kernel, by decide +kernel⟩, by decide +kernel⟩
end Go.Proofs.YtahpbnmbphobgaaGreatDoor
