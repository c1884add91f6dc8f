/- Fees: the contracts of Total and of its reference; the walk of FeeTotals. Conditions: up to twelve charges of bounded length. -/
import Derived.Test.YtpjgcdgdgljioaaGreatDoorDh
import Derived.Test.YtpjgcdgdgljioaaGreatDoorFpl
import Derived.Test.YtpjgcdgdgljioaaGreatDoorFd
import Derived.Test.YtpjgcdgdgljioaaGreatDoorGr
namespace Go.Proofs.YtpjgcdgdgljioaaGreatDoor
open Go.RowKit Go.Shelf Dec QQ
theorem chcells_len (c : ChS) : (chcells c).length = 5 := rfl
def chMg (c : ChS) : Int := valS c.mg
def chPf (c : ChS) : Int := valS c.pf
theorem tot_fit {l : List ChS} {K : Nat} (f : ChS → Int) (h : ∀ c ∈ l, (f c).natAbs < 10 ^ K) (hn : l.length ≤ 12) (k : Nat) : Fit (K + 2) (sumI f (l.take k)) := by
 have h1 := sumI_fit (f := f) (l := l.take k) (k := K) (fun a ha => h a (List.mem_of_mem_take ha))
 have h2 : (l.take k).length ≤ 12 := by rw [List.length_take]; omega
 have h3 : (l.take k).length * 10 ^ K ≤ 12 * 10 ^ K := Nat.mul_le_mul_right _ h2
 have h4 : 0 < 10 ^ K := Nat.pow_pos (by decide)
 unfold Fit
 rw [Nat.pow_add]
 omega
theorem canS_zero5 : canS 0 = ⟨#[]⟩ := canS_zero
set_option maxRecDepth 100000 in
set_option maxHeartbeats 4000000 in
theorem tot_any {A : Option Addr} {n c K : Nat} {l : List ChS} (hn : l.length = n) (h12 : n ≤ 12) (hK : K ≤ 5000) (hl : ∀ c ∈ l, c.mg.size ≤ K ∧ c.pf.size ≤ K) :
  RetI (fun w => Row w A (flatG chcells l)) 29 #[.slice A n c] (.tuple #[.string (canS (sumI chMg l)), .string (canS (sumI chPf l))]) := by
 intro w hg hi
 have hs := St.refl hg
 have HN := Lib.hid hn
 have HI := Lib.hid hi
 have HL := Lib.hid hl
 have HF : Hid (∀ k, Fit (K + 2) (sumI chMg (l.take k)) ∧ Fit (K + 2) (sumI chPf (l.take k))) := fun k =>
  ⟨tot_fit chMg (fun c hc => Fit.val (hl c hc).1) (by omega) k, tot_fit chPf (fun c hc => Fit.val (hl c hc).2) (by omega) k⟩
 obtain ⟨r1, hr1⟩ : ∃ v, canS (sumI chMg l) = v := ⟨_, rfl⟩
 obtain ⟨r2, hr2⟩ : ∃ v, canS (sumI chPf l) = v := ⟨_, rfl⟩
 rw [hr1, hr2]
 have HR1 := Lib.hid hr1
 have HR2 := Lib.hid hr2
 have HZ : Hid (canS (sumI chMg (l.take 0)) = ⟨#[]⟩ ∧ canS (sumI chPf (l.take 0)) = ⟨#[]⟩) := ⟨canS_zero5, canS_zero5⟩
 clear hn hi hl hr1 hr2
 go_enter Tryz.func29, Tryz.ntmps29
 go_wp2_with fail
 go_loopw [10, 4, 5] (fun s a b wr => ∃ k : Nat, k ≤ n ∧ s = .int .i64 (k : Int) ∧ a = .string (canS (sumI chMg (l.take k))) ∧ b = .string (canS (sumI chPf (l.take k))) ∧ St w wr) (fun s _ _ _ => (n - intOf s).toNat)
 case atStart => exact ⟨0, by omega, rfl, by rw [HZ.out.1], by rw [HZ.out.2], hs⟩
 case round =>
  obtain ⟨k, hk, rfl, rfl, rfl, hs⟩ := hrel
  by_cases hkn : k = n
  ·subst hkn
   have q : decide ((k : Int) < (k : Int)) = false := decide_eq_false (by omega)
   have e1 : canS (sumI chMg (l.take k)) = r1 := by rw [List.take_of_length_le (Nat.le_of_eq HN.out)]; exact HR1.out
   have e2 : canS (sumI chPf (l.take k)) = r2 := by rw [List.take_of_length_le (Nat.le_of_eq HN.out)]; exact HR2.out
   rw [e1, e2]
   clear e1 e2
   go_wp2_with fail
   go_ret2
   exact ⟨rfl, hs.2⟩
  ·have hkl : k < n := by omega
   have q : decide ((k : Int) < (n : Int)) = true := decide_eq_true (by omega)
   have qn : decide (k < n) = true := decide_eq_true hkl
   obtain ⟨d, hd⟩ : ∃ d, l[k]? = some d := ⟨l[k]'(by rw [HN.out]; exact hkl), by simp⟩
   obtain ⟨b, o, hA, hb, hcells⟩ := row_at (cs := chcells) (m := 5) chcells_len (by decide) (HI.out.on hs.2) hd
   subst hA
   have hz := HL.out d (List.mem_of_getElem? hd)
   have E1 : Hid (sumI chMg (l.take (k + 1)) = sumI chMg (l.take k) + valS d.mg) := sumI_take hd
   have E2 : Hid (sumI chPf (l.take (k + 1)) = sumI chPf (l.take k) + valS d.pf) := sumI_take hd
   have f1 := HF.out k
   have g1 := f1.1.size
   have g2 := f1.2.size
   have KA := AddR (Vs.can f1.1 (by omega)) (Vs.arg (s := d.mg) (by have := hz.1; omega))
   have KB := AddR (Vs.can f1.2 (by omega)) (Vs.arg (s := d.pf) (by have := hz.2; omega))
   clear hd hkn hz f1 g1 g2
   obtain ⟨f0, f1, f2, f3, f4⟩ := d
   dsimp only at KA KB
   generalize canS (sumI chMg (l.take k)) = s1 at *
   generalize canS (sumI chPf (l.take k)) = s2 at *
   have E1' : Hid (canS (sumI chMg (l.take (k + 1))) = canS (sumI chMg (l.take k) + valS f1)) := by show _ = _; rw [E1.out]
   have E2' : Hid (canS (sumI chPf (l.take (k + 1))) = canS (sumI chPf (l.take k) + valS f2)) := by show _ = _; rw [E2.out]
   clear E1 E2
   generalize canS (sumI chMg (l.take k) + valS f1) = s3 at *
   generalize canS (sumI chPf (l.take k) + valS f2) = s4 at *
   have x0 : wr.cell? ⟨b, o + k * 5, none⟩ = some (.int .i64 f0) := hcells 0 _ rfl
   have x1 : wr.cell? ⟨b, o + k * 5 + 1, none⟩ = some (.string f1) := hcells 1 _ rfl
   have x2 : wr.cell? ⟨b, o + k * 5 + 2, none⟩ = some (.string f2) := hcells 2 _ rfl
   have x3 : wr.cell? ⟨b, o + k * 5 + 3, none⟩ = some (.string f3) := hcells 3 _ rfl
   have x4 : wr.cell? ⟨b, o + k * 5 + 4, none⟩ = some (.string f4) := hcells 4 _ rfl
   clear hcells
   replace hs := hs.alloc (.cells #[.int .i64 f0, .string f1, .string f2, .string f3, .string f4] 65)
   have X := Bx.new wr #[.int .i64 f0, .string f1, .string f2, .string f3, .string f4] 65
   have k1 := X.keeps (i := 1) (v := .string f1) rfl
   have k2 := X.keeps (i := 2) (v := .string f2) rfl
   go_wp2_with fail
   refine wp_region_kept (by kernel_rfl) (by kernel_rfl) ?_
   repeat (go_big_quiet_step (first | (with_reducible exact KA.kept hs) | (with_reducible exact KB.kept hs)))
   refine wpQuiet_nil ?_
   rintro _ ⟨u, rfl⟩
   replace hs := hs.kept u
   go_wp2_with fail
   go_roundw
   case rel => exact ⟨k + 1, by omega, by go_num, by rw [E1'.out], by rw [E2'.out], hs⟩
   case measure => simp [intOf]; omega
end Go.Proofs.YtpjgcdgdgljioaaGreatDoor
