/- Attribution: the contract of Parts for any sectors; the example of the chapter. Conditions: up to five sectors with numbers of bounded length, or more than 32. -/
import Derived.Test.YticfdeaphiifeaaGreatDoorAt6
set_option maxHeartbeats 4000000
set_option maxRecDepth 100000
namespace Go.Proofs.YticfdeaphiifeaaGreatDoor
open Go.RowKit Go.Shelf Dec QQ
theorem Parts_any {A : Option Addr} {n c k0 : Nat} {L : List SecS} (hn : L.length = n) (hl : 32 < n ∨ FewS k0 L) (hc : n ≤ c) (w : World) (hg : Gl w) (hr : Row w A (flatG scells L)) :
  Calls Tryz.prog 18 #[.slice A n c] w fun e w' => ∃ v, e = .returned (.tuple #[v, .int .i64 (chkS L)]) ∧ OutG pcells 36 7 w.heap.size w' v (prtsR L).length (prtsR L) ∧ Below w.heap.size w w' := by
 by_cases h : chkS L = 0
 ·have e : prtsR L = partsL L := if_pos h
  have hlen : (partsL L).length = n := by unfold partsL; rw [List.length_map]; exact hn
  rw [e, h, hlen]
  rcases hl with h32 | hf
  ·unfold chkS at h; rw [if_neg (by omega), if_pos (by omega)] at h; cases h
  ·exact parts_few hn hf hc h w hg hr
 ·have e : prtsR L = [] := if_neg h
  rw [e]
  have K1 := scheck_any (A := A) hn hl hc
  have Hr := Lib.hid hr
  have hs := St.refl hg
  have q : (chkS L != 0) = true := by simpa using h
  generalize chkS L = ch at *
  clear hn hl hr h e
  go_enter Tryz.func18, Tryz.ntmps18
  go_wp2_with fail
  refine K1.step hs Hr.out ?_
  intro w1 hs _
  go_wp2_with fail
  go_ret2
  exact ⟨_, rfl, ⟨rfl, World.ownsRow_nil _ _ _ _⟩, hs.2⟩
theorem aw48c : chkS [⟨⟨#[97]⟩, ⟨#[51]⟩, ⟨#[52]⟩, ⟨#[49]⟩, ⟨#[49, 48]⟩, ⟨#[49]⟩, ⟨#[50]⟩, ⟨#[50]⟩, ⟨#[50, 53]⟩⟩, ⟨⟨#[98]⟩, ⟨#[49]⟩, ⟨#[52]⟩, ⟨#[]⟩, ⟨#[]⟩, ⟨#[49]⟩, ⟨#[50]⟩, ⟨#[49]⟩, ⟨#[53, 48]⟩⟩] = 0 := by decide +kernel
theorem partsL_few {k0 : Nat} {l : List SecS} (h : FewS k0 l) (hk : k0 ≤ 100) : FewP (13 * k0 + 10) (partsL l) := by
 refine ⟨by unfold partsL; rw [List.length_map]; exact h.1, by omega, by omega, ?_⟩
 intro p hp
 obtain ⟨s, hs, rfl⟩ := List.mem_map.1 hp
 have hq := h.part hs
 have hf := h.fit hs
 exact mkP_le (k := 13 * k0 + 9) (h.2.2.2 s hs).1 ((hq.1.mul hq.2.2).mono (by omega)) ((hf.2.2.1.mul hq.2.1).mono (by omega)) ((hq.1.mul hq.2.1).mono (by omega))
theorem prt_ext {p q : PrtS} (h : p.nm = q.nm ∧ p.an = q.an ∧ p.ad = q.ad ∧ p.sn = q.sn ∧ p.sd = q.sd ∧ p.jn = q.jn ∧ p.jd = q.jd) : p = q := by
 cases p
 cases q
 simp only at h
 obtain ⟨rfl, rfl, rfl, rfl, rfl, rfl, rfl⟩ := h
 rfl
theorem aw48p : partsL [⟨⟨#[97]⟩, ⟨#[51]⟩, ⟨#[52]⟩, ⟨#[49]⟩, ⟨#[49, 48]⟩, ⟨#[49]⟩, ⟨#[50]⟩, ⟨#[50]⟩, ⟨#[50, 53]⟩⟩, ⟨⟨#[98]⟩, ⟨#[49]⟩, ⟨#[52]⟩, ⟨#[]⟩, ⟨#[]⟩, ⟨#[49]⟩, ⟨#[50]⟩, ⟨#[49]⟩, ⟨#[53, 48]⟩⟩] = [⟨⟨#[97]⟩, ⟨#[51]⟩, ⟨#[52, 48, 48]⟩, ⟨#[49]⟩, ⟨#[49, 48, 48]⟩, ⟨#[49]⟩, ⟨#[50, 48, 48]⟩⟩, ⟨⟨#[98]⟩, ⟨#[51]⟩, ⟨#[52, 48, 48]⟩, ⟨#[45, 49]⟩, ⟨#[49, 48, 48]⟩, ⟨#[49]⟩, ⟨#[50, 48, 48]⟩⟩] := by
 have h1 : partS (benQ [⟨⟨#[97]⟩, ⟨#[51]⟩, ⟨#[52]⟩, ⟨#[49]⟩, ⟨#[49, 48]⟩, ⟨#[49]⟩, ⟨#[50]⟩, ⟨#[50]⟩, ⟨#[50, 53]⟩⟩, ⟨⟨#[98]⟩, ⟨#[49]⟩, ⟨#[52]⟩, ⟨#[]⟩, ⟨#[]⟩, ⟨#[49]⟩, ⟨#[50]⟩, ⟨#[49]⟩, ⟨#[53, 48]⟩⟩]) ⟨⟨#[97]⟩, ⟨#[51]⟩, ⟨#[52]⟩, ⟨#[49]⟩, ⟨#[49, 48]⟩, ⟨#[49]⟩, ⟨#[50]⟩, ⟨#[50]⟩, ⟨#[50, 53]⟩⟩ = ⟨⟨#[97]⟩, ⟨#[51]⟩, ⟨#[52, 48, 48]⟩, ⟨#[49]⟩, ⟨#[49, 48, 48]⟩, ⟨#[49]⟩, ⟨#[50, 48, 48]⟩⟩ := prt_ext (by decide +kernel)
 have h2 : partS (benQ [⟨⟨#[97]⟩, ⟨#[51]⟩, ⟨#[52]⟩, ⟨#[49]⟩, ⟨#[49, 48]⟩, ⟨#[49]⟩, ⟨#[50]⟩, ⟨#[50]⟩, ⟨#[50, 53]⟩⟩, ⟨⟨#[98]⟩, ⟨#[49]⟩, ⟨#[52]⟩, ⟨#[]⟩, ⟨#[]⟩, ⟨#[49]⟩, ⟨#[50]⟩, ⟨#[49]⟩, ⟨#[53, 48]⟩⟩]) ⟨⟨#[98]⟩, ⟨#[49]⟩, ⟨#[52]⟩, ⟨#[]⟩, ⟨#[]⟩, ⟨#[49]⟩, ⟨#[50]⟩, ⟨#[49]⟩, ⟨#[53, 48]⟩⟩ = ⟨⟨#[98]⟩, ⟨#[51]⟩, ⟨#[52, 48, 48]⟩, ⟨#[45, 49]⟩, ⟨#[49, 48, 48]⟩, ⟨#[49]⟩, ⟨#[50, 48, 48]⟩⟩ := prt_ext (by decide +kernel)
 show [partS (benQ [⟨⟨#[97]⟩, ⟨#[51]⟩, ⟨#[52]⟩, ⟨#[49]⟩, ⟨#[49, 48]⟩, ⟨#[49]⟩, ⟨#[50]⟩, ⟨#[50]⟩, ⟨#[50, 53]⟩⟩, ⟨⟨#[98]⟩, ⟨#[49]⟩, ⟨#[52]⟩, ⟨#[]⟩, ⟨#[]⟩, ⟨#[49]⟩, ⟨#[50]⟩, ⟨#[49]⟩, ⟨#[53, 48]⟩⟩]) ⟨⟨#[97]⟩, ⟨#[51]⟩, ⟨#[52]⟩, ⟨#[49]⟩, ⟨#[49, 48]⟩, ⟨#[49]⟩, ⟨#[50]⟩, ⟨#[50]⟩, ⟨#[50, 53]⟩⟩, partS (benQ [⟨⟨#[97]⟩, ⟨#[51]⟩, ⟨#[52]⟩, ⟨#[49]⟩, ⟨#[49, 48]⟩, ⟨#[49]⟩, ⟨#[50]⟩, ⟨#[50]⟩, ⟨#[50, 53]⟩⟩, ⟨⟨#[98]⟩, ⟨#[49]⟩, ⟨#[52]⟩, ⟨#[]⟩, ⟨#[]⟩, ⟨#[49]⟩, ⟨#[50]⟩, ⟨#[49]⟩, ⟨#[53, 48]⟩⟩]) ⟨⟨#[98]⟩, ⟨#[49]⟩, ⟨#[52]⟩, ⟨#[]⟩, ⟨#[]⟩, ⟨#[49]⟩, ⟨#[50]⟩, ⟨#[49]⟩, ⟨#[53, 48]⟩⟩] = _
 rw [h1, h2]
theorem aw48t : totE [⟨⟨#[97]⟩, ⟨#[51]⟩, ⟨#[52, 48, 48]⟩, ⟨#[49]⟩, ⟨#[49, 48, 48]⟩, ⟨#[49]⟩, ⟨#[50, 48, 48]⟩⟩, ⟨⟨#[98]⟩, ⟨#[51]⟩, ⟨#[52, 48, 48]⟩, ⟨#[45, 49]⟩, ⟨#[49, 48, 48]⟩, ⟨#[49]⟩, ⟨#[50, 48, 48]⟩⟩] = 0 ∧ frN (totQ [⟨⟨#[97]⟩, ⟨#[51]⟩, ⟨#[52, 48, 48]⟩, ⟨#[49]⟩, ⟨#[49, 48, 48]⟩, ⟨#[49]⟩, ⟨#[50, 48, 48]⟩⟩, ⟨⟨#[98]⟩, ⟨#[51]⟩, ⟨#[52, 48, 48]⟩, ⟨#[45, 49]⟩, ⟨#[49, 48, 48]⟩, ⟨#[49]⟩, ⟨#[50, 48, 48]⟩⟩]) = ⟨#[49]⟩ ∧ frD (totQ [⟨⟨#[97]⟩, ⟨#[51]⟩, ⟨#[52, 48, 48]⟩, ⟨#[49]⟩, ⟨#[49, 48, 48]⟩, ⟨#[49]⟩, ⟨#[50, 48, 48]⟩⟩, ⟨⟨#[98]⟩, ⟨#[51]⟩, ⟨#[52, 48, 48]⟩, ⟨#[45, 49]⟩, ⟨#[49, 48, 48]⟩, ⟨#[49]⟩, ⟨#[50, 48, 48]⟩⟩]) = ⟨#[52, 48]⟩ := by decide +kernel
theorem eqlP (a0 a1 a2 a3 a4 a5 a6 b0 b1 b2 b3 b4 b5 b6 : ByteArray) (u : World) : (binOp .eql 36 (.agg #[.string a0, .string a1, .string a2, .string a3, .string a4, .string a5, .string a6]) (.agg #[.string b0, .string b1, .string b2, .string b3, .string b4, .string b5, .string b6])).run Tryz.prog u = .ok (.bool ((a0.toList == b0.toList) && (a1.toList == b1.toList) && (a2.toList == b2.toList) && (a3.toList == b3.toList) && (a4.toList == b4.toList) && (a5.toList == b5.toList) && (a6.toList == b6.toList))) u := by
 simp [go_sem]
 repeat' split
 all_goals simp_all
theorem few2 : FewS 12 [⟨⟨#[97]⟩, ⟨#[51]⟩, ⟨#[52]⟩, ⟨#[49]⟩, ⟨#[49, 48]⟩, ⟨#[49]⟩, ⟨#[50]⟩, ⟨#[50]⟩, ⟨#[50, 53]⟩⟩, ⟨⟨#[98]⟩, ⟨#[49]⟩, ⟨#[52]⟩, ⟨#[]⟩, ⟨#[]⟩, ⟨#[49]⟩, ⟨#[50]⟩, ⟨#[49]⟩, ⟨#[53, 48]⟩⟩] := ⟨by decide, by decide, by decide, by intro s hs; simp at hs; rcases hs with rfl | rfl <;> (unfold SecS.le; decide +kernel)⟩
theorem awake_1 (a b : ByteArray) : Ret 36 #[.string a, .string b] (.agg #[.string a, .string b]) := by
 intro w hg
 go_enter Tryz.func36, Tryz.ntmps36
 go_wp2_with fail
 have hs2 := (St.refl hg).alloc (.cells #[.string a, .string b] 34)
 exact bodyPost_ret (v := .agg #[.string a, .string b]) (by simp [results, Tryz.results36, go_sem]) rfl ⟨rfl, hs2.2⟩
theorem awake48 : Ret 9 #[] (.bool true) := by
 intro w hg
 have hs := St.refl hg
 have KA := awake_1
 have KP := fun (B : Nat) (w : World) (hg : Gl w) (hr : Row w (some ⟨B, 0, none⟩) (flatG scells [⟨⟨#[97]⟩, ⟨#[51]⟩, ⟨#[52]⟩, ⟨#[49]⟩, ⟨#[49, 48]⟩, ⟨#[49]⟩, ⟨#[50]⟩, ⟨#[50]⟩, ⟨#[50, 53]⟩⟩, ⟨⟨#[98]⟩, ⟨#[49]⟩, ⟨#[52]⟩, ⟨#[]⟩, ⟨#[]⟩, ⟨#[49]⟩, ⟨#[50]⟩, ⟨#[49]⟩, ⟨#[53, 48]⟩⟩])) => Parts_any (A := some ⟨B, 0, none⟩) (c := 2) (n := 2) (k0 := 12) rfl (.inr few2) (by decide) w hg hr
 have KT := fun A c => Total_any (A := A) (c := c) (n := 2) (k0 := 13 * 12 + 10) (l := partsL [⟨⟨#[97]⟩, ⟨#[51]⟩, ⟨#[52]⟩, ⟨#[49]⟩, ⟨#[49, 48]⟩, ⟨#[49]⟩, ⟨#[50]⟩, ⟨#[50]⟩, ⟨#[50, 53]⟩⟩, ⟨⟨#[98]⟩, ⟨#[49]⟩, ⟨#[52]⟩, ⟨#[]⟩, ⟨#[]⟩, ⟨#[49]⟩, ⟨#[50]⟩, ⟨#[49]⟩, ⟨#[53, 48]⟩⟩]) rfl (.inr (partsL_few few2 (by decide)))
 have e1 : prtsR [⟨⟨#[97]⟩, ⟨#[51]⟩, ⟨#[52]⟩, ⟨#[49]⟩, ⟨#[49, 48]⟩, ⟨#[49]⟩, ⟨#[50]⟩, ⟨#[50]⟩, ⟨#[50, 53]⟩⟩, ⟨⟨#[98]⟩, ⟨#[49]⟩, ⟨#[52]⟩, ⟨#[]⟩, ⟨#[]⟩, ⟨#[49]⟩, ⟨#[50]⟩, ⟨#[49]⟩, ⟨#[53, 48]⟩⟩] = partsL [⟨⟨#[97]⟩, ⟨#[51]⟩, ⟨#[52]⟩, ⟨#[49]⟩, ⟨#[49, 48]⟩, ⟨#[49]⟩, ⟨#[50]⟩, ⟨#[50]⟩, ⟨#[50, 53]⟩⟩, ⟨⟨#[98]⟩, ⟨#[49]⟩, ⟨#[52]⟩, ⟨#[]⟩, ⟨#[]⟩, ⟨#[49]⟩, ⟨#[50]⟩, ⟨#[49]⟩, ⟨#[53, 48]⟩⟩] := if_pos aw48c
 rw [e1, aw48c, aw48p] at KP
 rw [aw48p] at KT
 unfold FR at KT
 rw [aw48t.1, aw48t.2.1, aw48t.2.2] at KT
 have HKP := Lib.hid KP
 have HKT := Lib.hid KT
 clear KP KT e1
 go_enter Tryz.func9, Tryz.ntmps9
 go_wp2_with fail
 refine (KA _ _).step hs ?_
 intro w1 hs _
 go_wp2_with fail
 refine (KA _ _).step hs ?_
 intro w1 hs _
 go_wp2_with fail
 refine (KA _ _).step hs ?_
 intro w1 hs _
 go_wp2_with fail
 refine (KA _ _).step hs ?_
 intro w1 hs _
 go_wp2_with fail
 refine (KA _ _).step hs ?_
 intro w1 hs _
 go_wp2_with fail
 refine (KA _ _).step hs ?_
 intro w1 hs _
 go_wp2_with fail
 refine (KA _ _).step hs ?_
 intro w1 hs _
 go_wp2_with fail
 have HR : Hid (Row (w1.alloc (.cells #[.string ⟨#[97]⟩, .string ⟨#[51]⟩, .string ⟨#[52]⟩, .string ⟨#[49]⟩, .string ⟨#[49, 48]⟩, .string ⟨#[49]⟩, .string ⟨#[50]⟩, .string ⟨#[50]⟩, .string ⟨#[50, 53]⟩, .string ⟨#[98]⟩, .string ⟨#[49]⟩, .string ⟨#[52]⟩, .string ⟨#[]⟩, .string ⟨#[]⟩, .string ⟨#[49]⟩, .string ⟨#[50]⟩, .string ⟨#[49]⟩, .string ⟨#[53, 48]⟩] 73)) (some ⟨w1.heap.size, 0, none⟩) (flatG scells [⟨⟨#[97]⟩, ⟨#[51]⟩, ⟨#[52]⟩, ⟨#[49]⟩, ⟨#[49, 48]⟩, ⟨#[49]⟩, ⟨#[50]⟩, ⟨#[50]⟩, ⟨#[50, 53]⟩⟩, ⟨⟨#[98]⟩, ⟨#[49]⟩, ⟨#[52]⟩, ⟨#[]⟩, ⟨#[]⟩, ⟨#[49]⟩, ⟨#[50]⟩, ⟨#[49]⟩, ⟨#[53, 48]⟩⟩])) := Row.of (Bx.new w1 #[.string ⟨#[97]⟩, .string ⟨#[51]⟩, .string ⟨#[52]⟩, .string ⟨#[49]⟩, .string ⟨#[49, 48]⟩, .string ⟨#[49]⟩, .string ⟨#[50]⟩, .string ⟨#[50]⟩, .string ⟨#[50, 53]⟩, .string ⟨#[98]⟩, .string ⟨#[49]⟩, .string ⟨#[52]⟩, .string ⟨#[]⟩, .string ⟨#[]⟩, .string ⟨#[49]⟩, .string ⟨#[50]⟩, .string ⟨#[49]⟩, .string ⟨#[53, 48]⟩] 73)
 have hs2 := hs.alloc (.cells #[.string ⟨#[97]⟩, .string ⟨#[51]⟩, .string ⟨#[52]⟩, .string ⟨#[49]⟩, .string ⟨#[49, 48]⟩, .string ⟨#[49]⟩, .string ⟨#[50]⟩, .string ⟨#[50]⟩, .string ⟨#[50, 53]⟩, .string ⟨#[98]⟩, .string ⟨#[49]⟩, .string ⟨#[52]⟩, .string ⟨#[]⟩, .string ⟨#[]⟩, .string ⟨#[49]⟩, .string ⟨#[50]⟩, .string ⟨#[49]⟩, .string ⟨#[53, 48]⟩] 73)
 refine (HKP.out w1.heap.size _ hs2.gl HR.out).mono ?_
 rintro e w2 ⟨v, rfl, ho, hb2⟩
 obtain ⟨A1, c1, hv, hrow⟩ := ho.row
 have hs := hs2.on hb2
 have hv' : v = .slice A1 2 c1 := hv
 subst hv'
 have HRow := Lib.hid hrow
 have KT := HKT.out A1 c1
 clear ho hv hrow hb2 hs2
 go_wp2_with fail
 refine KT.step hs HRow.out ?_
 intro w3 hs hb3
 obtain ⟨b, o, hA, hb, hcells⟩ := row_at (cs := pcells) (m := 7) pcells_len (by decide) (k := 0) (HRow.out.on hb3) rfl
 subst hA
 clear KT HKT HKP
 go_wp2_with fail
 have hs4 := hs.alloc (.cells #[.string ⟨#[49]⟩, .string ⟨#[52, 48]⟩] 34)
 have BX := Bx.new w3 #[.string ⟨#[49]⟩, .string ⟨#[52, 48]⟩] 34
 have k0 := BX.keeps (i := 0) (v := .string ⟨#[49]⟩) rfl
 have k1 := BX.keeps (i := 1) (v := .string ⟨#[52, 48]⟩) rfl
 have hzz : ∀ j x, (pcells ⟨⟨#[97]⟩, ⟨#[51]⟩, ⟨#[52, 48, 48]⟩, ⟨#[49]⟩, ⟨#[49, 48, 48]⟩, ⟨#[49]⟩, ⟨#[50, 48, 48]⟩⟩)[j]? = some x → ∀ u : Kept (w3.alloc (.cells #[.string ⟨#[49]⟩, .string ⟨#[52, 48]⟩] 34)), u.W.cell? ⟨b, o + j, none⟩ = some x := fun j x hj u => by
  have h1 := hcells j x hj
  rw [show o + (0 * 7 + j) = o + j by omega] at h1
  exact Kept.cell_of ((((Below.refl _ w3).alloc (Nat.le_refl _) _).cell (p := ⟨b, o + j, none⟩) (block_lt_of_cell h1)).trans h1) u
 have z0 : ∀ u : Kept (w3.alloc (.cells #[.string ⟨#[49]⟩, .string ⟨#[52, 48]⟩] 34)), u.W.cell? ⟨b, o, none⟩ = some (.string ⟨#[97]⟩) := hzz 0 _ rfl
 have z1 : ∀ u : Kept (w3.alloc (.cells #[.string ⟨#[49]⟩, .string ⟨#[52, 48]⟩] 34)), u.W.cell? ⟨b, o + 1, none⟩ = some (.string ⟨#[51]⟩) := hzz 1 _ rfl
 have z2 : ∀ u : Kept (w3.alloc (.cells #[.string ⟨#[49]⟩, .string ⟨#[52, 48]⟩] 34)), u.W.cell? ⟨b, o + 2, none⟩ = some (.string ⟨#[52, 48, 48]⟩) := hzz 2 _ rfl
 have z3 : ∀ u : Kept (w3.alloc (.cells #[.string ⟨#[49]⟩, .string ⟨#[52, 48]⟩] 34)), u.W.cell? ⟨b, o + 3, none⟩ = some (.string ⟨#[49]⟩) := hzz 3 _ rfl
 have z4 : ∀ u : Kept (w3.alloc (.cells #[.string ⟨#[49]⟩, .string ⟨#[52, 48]⟩] 34)), u.W.cell? ⟨b, o + 4, none⟩ = some (.string ⟨#[49, 48, 48]⟩) := hzz 4 _ rfl
 have z5 : ∀ u : Kept (w3.alloc (.cells #[.string ⟨#[49]⟩, .string ⟨#[52, 48]⟩] 34)), u.W.cell? ⟨b, o + 5, none⟩ = some (.string ⟨#[49]⟩) := hzz 5 _ rfl
 have z6 : ∀ u : Kept (w3.alloc (.cells #[.string ⟨#[49]⟩, .string ⟨#[52, 48]⟩] 34)), u.W.cell? ⟨b, o + 6, none⟩ = some (.string ⟨#[50, 48, 48]⟩) := hzz 6 _ rfl
 have eP := eqlP ⟨#[97]⟩ ⟨#[51]⟩ ⟨#[52, 48, 48]⟩ ⟨#[49]⟩ ⟨#[49, 48, 48]⟩ ⟨#[49]⟩ ⟨#[50, 48, 48]⟩ ⟨#[97]⟩ ⟨#[51]⟩ ⟨#[52, 48, 48]⟩ ⟨#[49]⟩ ⟨#[49, 48, 48]⟩ ⟨#[49]⟩ ⟨#[50, 48, 48]⟩
 have eF := eqlF ⟨#[49]⟩ ⟨#[52, 48]⟩ ⟨#[49]⟩ ⟨#[52, 48]⟩
 simp only [beq_self_eq_true, Bool.and_true] at eP eF
 have A1 := awake_1 ⟨#[51]⟩ ⟨#[52, 48, 48]⟩
 have A2 := awake_1 ⟨#[49]⟩ ⟨#[49, 48, 48]⟩
 have A3 := awake_1 ⟨#[49]⟩ ⟨#[50, 48, 48]⟩
 have A4 := awake_1 ⟨#[49]⟩ ⟨#[52, 48]⟩
 clear hcells hzz HRow
 refine wp_region_kept (by kernel_rfl) (by kernel_rfl) ?_
 repeat (go_big_quiet_step (first | (with_reducible exact A1.kept hs4) | (with_reducible exact A2.kept hs4) | (with_reducible exact A3.kept hs4) | (with_reducible exact A4.kept hs4)))
 refine wpQuiet_nil ?_
 rintro _ ⟨u, rfl⟩
 go_wp2_with fail
 go_ret
 exact ⟨rfl, (hs4.kept u).2⟩
end Go.Proofs.YticfdeaphiifeaaGreatDoor
