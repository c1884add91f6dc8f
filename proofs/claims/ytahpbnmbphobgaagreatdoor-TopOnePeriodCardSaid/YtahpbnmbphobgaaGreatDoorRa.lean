/- Integer: the reference's digits. Integer: the reference's digits, Canonical, Print, Parse: they answer as the implementation's do. Conditions: sizes. Integer: the reference's Print and Parse. Conditions: sizes; the library's table and error lie as the program's text lays them. Integer, the reference: contracts of short, Of, Small, Neg, Check and Compare. Conditions: sizes below 2^40. Integer, the reference: contracts of Of, Small, Neg, Check and Compare. Conditions: sizes below 2^40. Integer, the reference: contracts of Small, Neg, Check and Compare. Conditions: sizes below 2^40. Integer, the reference: contracts of Neg, Check and Compare. Conditions: sizes below 2^62. -/
import Derived.Test.YtahpbnmbphobgaaGreatDoorIe
namespace Go.Proofs.YtahpbnmbphobgaaGreatDoor
open Go.RowKit Go.Shelf Dec

theorem get_bytes (t : ByteArray) (k : Nat) (h : k < t.size) : (bytes t)[k]? = some t[k] := by
  unfold bytes
  rw [Array.getElem?_toList]
  exact Array.getElem?_eq_getElem h
theorem all_of_get {t : ByteArray} (H : ∀ (j : Nat) (h : j < t.size), j < t.size → isDig t[j] = true) : (bytes t).all isDig = true := by
  rw [List.all_eq_true]
  intro d hd
  obtain ⟨k, hk⟩ := List.getElem?_of_mem hd
  have hl : k < t.size := by rw [size_bytes]; exact (List.getElem?_eq_some_iff.1 hk).1
  rw [get_bytes t k hl] at hk
  rw [← Option.some.inj hk]
  exact H k hl hl

def RD (Q : ByteArray → Bool → Prop) (w : World) (e : Ending) (w' : World) : Prop := ∃ d n, e = .returned (.tuple #[.string d, .bool n]) ∧ Q d n ∧ Below w.heap.size w w'
theorem rd_mk {Q : ByteArray → Bool → Prop} {w : World} {d : ByteArray} {n : Bool} (h : Q d n) : RD Q w (.returned (.tuple #[.string d, .bool n])) w := ⟨d, n, rfl, h, Below.refl _ _⟩
theorem not_all {t : ByteArray} {k : Nat} (hk : k < t.size) (h : isDig t[k] = false) : (bytes t).all isDig = false := by
  rw [List.all_eq_false]
  exact ⟨t[k], List.mem_of_getElem? (get_bytes t k hk), by rw [h]; decide⟩
theorem bytes_ext (u : ByteArray) : bytes (u.extract 1 u.size) = (bytes u).drop 1 := by
  unfold bytes
  rw [ByteArray.data_extract, Array.toList_extract, List.extract_eq_take_drop]
  apply List.take_of_length_le
  rw [List.length_drop, Array.length_toList]
  exact Nat.le_refl _
theorem bytes_first (u : ByteArray) (h : 0 < u.size) : bytes u = u[0] :: bytes (u.extract 1 u.size) := by
  rw [bytes_ext]
  have := get_bytes u 0 h
  cases hb : bytes u with
  | nil => rw [hb] at this; cases this
  | cons x l => rw [hb] at this; simp at this; rw [this]; rfl
theorem size_ext (u : ByteArray) : (u.extract 1 u.size).size = u.size - 1 := by rw [size_bytes, bytes_ext, List.length_drop, ← size_bytes]
set_option maxHeartbeats 2000000 in
theorem rdigits_neg (a t : ByteArray) (w : World) (ha : a.size ≤ 9223372036854775807) (h0 : 0 < a.size) (h1 : ((a[0].toNat : Int) == 45) = true) (ht : a.extract 1 a.size = t) (hts : t.size ≤ 9223372036854775807) (Q : ByteArray → Bool → Prop)
    (hall : (bytes t).all isDig = true → Q (str ((bytes t).dropWhile (· == 48))) (!((bytes t).dropWhile (· == 48)).isEmpty)) (hno : (bytes t).all isDig = false → Q ⟨#[]⟩ false) :
    Calls Tryz.prog 83 #[.string a] w (RD Q w) := by
  have h2 : (0 : Int) < a.size := by omega
  have Hno := Lib.hid hno
  clear hno
  go_enter Tryz.func83, Tryz.ntmps83
  go_wp2
  clear ht
  have Hall := Lib.hid (fun h => hall h)
  clear hall
  go_loop [6] (fun s => ∃ k : Nat, k ≤ t.size ∧ s = .int .i64 k ∧ Hid (∀ (j : Nat) (h : j < t.size), j < k → isDig t[j] = true)) (fun s => t.size - (intOf s).toNat)
  case atStart => exact ⟨0, by omega, rfl, fun j _ h => by omega⟩
  case round =>
    obtain ⟨k, hk, rfl, H⟩ := hrel
    by_cases hkt : k = t.size
    · subst hkt
      have HH : Hid ((bytes t).all isDig = true) := all_of_get H.out
      clear H
      have q0 : decide ((t.size : Int) < (t.size : Int)) = false := decide_eq_false (by omega)
      go_wp2
      go_loop [4] (fun s => ∃ u : ByteArray, u.size ≤ t.size ∧ s = .string u ∧ Hid ((bytes u).dropWhile (· == 48) = (bytes t).dropWhile (· == 48))) (fun s => match s with | .string u => u.size | _ => 0)
      case atStart => exact ⟨t, by omega, rfl, rfl⟩
      case round =>
        obtain ⟨u, hu, rfl, HU⟩ := hrel
        by_cases hu0 : u.size = 0
        · have q5 : decide ((0 : Int) < (u.size : Int)) = false := decide_eq_false (by omega)
          go_wp2
          go_ret2
          refine rd_mk (d := u) (n := false) ?_
          have e1 : bytes u = [] := by rw [← List.length_eq_zero_iff, ← size_bytes]; exact hu0
          have e2 := Hall.out HH.out
          rw [← HU.out, e1] at e2
          have e3 : u = str [] := by rw [← e1, str_bytes]
          rw [e3]
          exact e2
        · have hul : 0 < u.size := by omega
          have q5 : decide ((0 : Int) < (u.size : Int)) = true := decide_eq_true (by omega)
          have HB := Lib.hid (bytes_first u hul)
          have hsz := size_ext u
          by_cases h48 : ((u[0].toNat : Int) == 48) = true
          · generalize hx : u.extract 1 u.size = x at *
            go_wp2
            go_round
            case rel =>
              refine ⟨x, by omega, rfl, ?_⟩
              show _ = _
              rw [← HU.out, HB.out, List.dropWhile_cons_of_pos]
              have h := eq_of_beq h48
              have : u[0].toNat = 48 := by omega
              simp [← UInt8.toNat_inj, this]
            case measure => simp; omega
          · have h49 : ((u[0].toNat : Int) == 48) = false := by simpa using h48
            go_wp2
            go_ret2
            refine rd_mk (d := u) (n := true) ?_
            have e2 := Hall.out HH.out
            have hn : ¬ (u[0] == 48) = true := fun e => h48 (by rw [show u[0] = 48 from eq_of_beq e]; rfl)
            rw [← HU.out, HB.out, List.dropWhile_cons_of_neg (p := (· == 48)) hn, ← HB.out, str_bytes] at e2
            have e4 : (bytes u).isEmpty = false := by rw [HB.out]; rfl
            rw [e4] at e2
            exact e2
    · have hkl : k < t.size := by omega
      have q0 : decide ((k : Int) < (t.size : Int)) = true := decide_eq_true (by omega)
      by_cases hlo : (t[k].toNat : Int) < 48
      · have q1 := decide_eq_true hlo
        go_wp2
        go_ret2
        refine rd_mk (d := ⟨#[]⟩) (n := false) (Hno.out (not_all hkl ?_))
        unfold isDig
        exact decide_eq_false (by omega)
      · have q1 := decide_eq_false hlo
        by_cases hhi : (57 : Int) < (t[k].toNat : Int)
        · have q2 := decide_eq_true hhi
          go_wp2
          go_ret2
          refine rd_mk (d := ⟨#[]⟩) (n := false) (Hno.out (not_all hkl ?_))
          unfold isDig
          exact decide_eq_false (by omega)
        · have q2 := decide_eq_false hhi
          go_wp2
          go_round
          case rel =>
            refine ⟨k + 1, by omega, by simp, ?_⟩
            intro j hj hjk
            by_cases e : j = k
            · subst e; unfold isDig; exact decide_eq_true (by omega)
            · exact H.out j hj (by omega)
          case measure => simp [intOf]; omega

set_option maxHeartbeats 2000000 in
theorem rdigits_pos (a : ByteArray) (w : World) (ha : a.size ≤ 9223372036854775807) (h0 : 0 < a.size) (h1 : ((a[0].toNat : Int) == 45) = false) (Q : ByteArray → Bool → Prop)
    (hall : (bytes a).all isDig = true → Q (str ((bytes a).dropWhile (· == 48))) false) (hno : (bytes a).all isDig = false → Q ⟨#[]⟩ false) :
    Calls Tryz.prog 83 #[.string a] w (RD Q w) := by
  have h2 : (0 : Int) < a.size := by omega
  have Hno := Lib.hid hno
  clear hno
  go_enter Tryz.func83, Tryz.ntmps83
  go_wp2
  have Hall := Lib.hid (fun h => hall h)
  clear hall
  go_loop [6] (fun s => ∃ k : Nat, k ≤ a.size ∧ s = .int .i64 k ∧ Hid (∀ (j : Nat) (h : j < a.size), j < k → isDig a[j] = true)) (fun s => a.size - (intOf s).toNat)
  case atStart => exact ⟨0, by omega, rfl, fun j _ h => by omega⟩
  case round =>
    obtain ⟨k, hk, rfl, H⟩ := hrel
    by_cases hkt : k = a.size
    · subst hkt
      have HH : Hid ((bytes a).all isDig = true) := all_of_get H.out
      clear H
      have q0 : decide ((a.size : Int) < (a.size : Int)) = false := decide_eq_false (by omega)
      go_wp2
      go_loop [4] (fun s => ∃ u : ByteArray, u.size ≤ a.size ∧ s = .string u ∧ Hid ((bytes u).dropWhile (· == 48) = (bytes a).dropWhile (· == 48))) (fun s => match s with | .string u => u.size | _ => 0)
      case atStart => exact ⟨a, by omega, rfl, rfl⟩
      case round =>
        obtain ⟨u, hu, rfl, HU⟩ := hrel
        by_cases hu0 : u.size = 0
        · have q5 : decide ((0 : Int) < (u.size : Int)) = false := decide_eq_false (by omega)
          go_wp2
          go_ret2
          refine rd_mk (d := u) (n := false) ?_
          have e1 : bytes u = [] := by rw [← List.length_eq_zero_iff, ← size_bytes]; exact hu0
          have e2 := Hall.out HH.out
          rw [← HU.out, e1] at e2
          have e3 : u = str [] := by rw [← e1, str_bytes]
          rw [e3]
          exact e2
        · have hul : 0 < u.size := by omega
          have q5 : decide ((0 : Int) < (u.size : Int)) = true := decide_eq_true (by omega)
          have HB := Lib.hid (bytes_first u hul)
          have hsz := size_ext u
          by_cases h48 : ((u[0].toNat : Int) == 48) = true
          · generalize hx : u.extract 1 u.size = x at *
            go_wp2
            go_round
            case rel =>
              refine ⟨x, by omega, rfl, ?_⟩
              show _ = _
              rw [← HU.out, HB.out, List.dropWhile_cons_of_pos]
              have h := eq_of_beq h48
              have : u[0].toNat = 48 := by omega
              simp [← UInt8.toNat_inj, this]
            case measure => simp; omega
          · have h49 : ((u[0].toNat : Int) == 48) = false := by simpa using h48
            go_wp2
            go_ret2
            refine rd_mk (d := u) (n := false) ?_
            have e2 := Hall.out HH.out
            have hn : ¬ (u[0] == 48) = true := fun e => h48 (by rw [show u[0] = 48 from eq_of_beq e]; rfl)
            rw [← HU.out, HB.out, List.dropWhile_cons_of_neg (p := (· == 48)) hn, ← HB.out, str_bytes] at e2
            exact e2
    · have hkl : k < a.size := by omega
      have q0 : decide ((k : Int) < (a.size : Int)) = true := decide_eq_true (by omega)
      by_cases hlo : (a[k].toNat : Int) < 48
      · have q1 := decide_eq_true hlo
        go_wp2
        go_ret2
        refine rd_mk (d := ⟨#[]⟩) (n := false) (Hno.out (not_all hkl ?_))
        unfold isDig
        exact decide_eq_false (by omega)
      · have q1 := decide_eq_false hlo
        by_cases hhi : (57 : Int) < (a[k].toNat : Int)
        · have q2 := decide_eq_true hhi
          go_wp2
          go_ret2
          refine rd_mk (d := ⟨#[]⟩) (n := false) (Hno.out (not_all hkl ?_))
          unfold isDig
          exact decide_eq_false (by omega)
        · have q2 := decide_eq_false hhi
          go_wp2
          go_round
          case rel =>
            refine ⟨k + 1, by omega, by simp, ?_⟩
            intro j hj hjk
            by_cases e : j = k
            · subst e; unfold isDig; exact decide_eq_true (by omega)
            · exact H.out j hj (by omega)
          case measure => simp [intOf]; omega

set_option maxHeartbeats 2000000 in
theorem rdigits_nil (a : ByteArray) (w : World) (ha : a.size ≤ 9223372036854775807) (h0 : ¬ (0 : Int) < a.size) (Q : ByteArray → Bool → Prop)
    (hall : (bytes a).all isDig = true → Q (str ((bytes a).dropWhile (· == 48))) false) (hno : (bytes a).all isDig = false → Q ⟨#[]⟩ false) :
    Calls Tryz.prog 83 #[.string a] w (RD Q w) := by
  have Hno := Lib.hid hno
  clear hno
  go_enter Tryz.func83, Tryz.ntmps83
  go_wp2
  have Hall := Lib.hid (fun h => hall h)
  clear hall
  go_loop [6] (fun s => ∃ k : Nat, k ≤ a.size ∧ s = .int .i64 k ∧ Hid (∀ (j : Nat) (h : j < a.size), j < k → isDig a[j] = true)) (fun s => a.size - (intOf s).toNat)
  case atStart => exact ⟨0, by omega, rfl, fun j _ h => by omega⟩
  case round =>
    obtain ⟨k, hk, rfl, H⟩ := hrel
    by_cases hkt : k = a.size
    · subst hkt
      have HH : Hid ((bytes a).all isDig = true) := all_of_get H.out
      clear H
      have q0 : decide ((a.size : Int) < (a.size : Int)) = false := decide_eq_false (by omega)
      go_wp2
      go_loop [4] (fun s => ∃ u : ByteArray, u.size ≤ a.size ∧ s = .string u ∧ Hid ((bytes u).dropWhile (· == 48) = (bytes a).dropWhile (· == 48))) (fun s => match s with | .string u => u.size | _ => 0)
      case atStart => exact ⟨a, by omega, rfl, rfl⟩
      case round =>
        obtain ⟨u, hu, rfl, HU⟩ := hrel
        by_cases hu0 : u.size = 0
        · have q5 : decide ((0 : Int) < (u.size : Int)) = false := decide_eq_false (by omega)
          go_wp2
          go_ret2
          refine rd_mk (d := u) (n := false) ?_
          have e1 : bytes u = [] := by rw [← List.length_eq_zero_iff, ← size_bytes]; exact hu0
          have e2 := Hall.out HH.out
          rw [← HU.out, e1] at e2
          have e3 : u = str [] := by rw [← e1, str_bytes]
          rw [e3]
          exact e2
        · have hul : 0 < u.size := by omega
          have q5 : decide ((0 : Int) < (u.size : Int)) = true := decide_eq_true (by omega)
          have HB := Lib.hid (bytes_first u hul)
          have hsz := size_ext u
          by_cases h48 : ((u[0].toNat : Int) == 48) = true
          · generalize hx : u.extract 1 u.size = x at *
            go_wp2
            go_round
            case rel =>
              refine ⟨x, by omega, rfl, ?_⟩
              show _ = _
              rw [← HU.out, HB.out, List.dropWhile_cons_of_pos]
              have h := eq_of_beq h48
              have : u[0].toNat = 48 := by omega
              simp [← UInt8.toNat_inj, this]
            case measure => simp; omega
          · have h49 : ((u[0].toNat : Int) == 48) = false := by simpa using h48
            go_wp2
            go_ret2
            refine rd_mk (d := u) (n := false) ?_
            have e2 := Hall.out HH.out
            have hn : ¬ (u[0] == 48) = true := fun e => h48 (by rw [show u[0] = 48 from eq_of_beq e]; rfl)
            rw [← HU.out, HB.out, List.dropWhile_cons_of_neg (p := (· == 48)) hn, ← HB.out, str_bytes] at e2
            exact e2
    · have hkl : k < a.size := by omega
      have q0 : decide ((k : Int) < (a.size : Int)) = true := decide_eq_true (by omega)
      by_cases hlo : (a[k].toNat : Int) < 48
      · have q1 := decide_eq_true hlo
        go_wp2
        go_ret2
        refine rd_mk (d := ⟨#[]⟩) (n := false) (Hno.out (not_all hkl ?_))
        unfold isDig
        exact decide_eq_false (by omega)
      · have q1 := decide_eq_false hlo
        by_cases hhi : (57 : Int) < (a[k].toNat : Int)
        · have q2 := decide_eq_true hhi
          go_wp2
          go_ret2
          refine rd_mk (d := ⟨#[]⟩) (n := false) (Hno.out (not_all hkl ?_))
          unfold isDig
          exact decide_eq_false (by omega)
        · have q2 := decide_eq_false hhi
          go_wp2
          go_round
          case rel =>
            refine ⟨k + 1, by omega, by simp, ?_⟩
            intro j hj hjk
            by_cases e : j = k
            · subst e; unfold isDig; exact decide_eq_true (by omega)
            · exact H.out j hj (by omega)
          case measure => simp [intOf]; omega
end Go.Proofs.YtahpbnmbphobgaaGreatDoor
namespace Go.Proofs.YtahpbnmbphobgaaGreatDoor
open Go.RowKit Go.Shelf Dec

theorem head_bytes (a : ByteArray) (h : 0 < a.size) : (bytes a).head? = some a[0] := by rw [bytes_first a h]; rfl
theorem rdigits_any (a : ByteArray) (w : World) (ha : a.size ≤ 9223372036854775807) :
    Calls Tryz.prog 83 #[.string a] w fun e w' => e = .returned (.tuple #[.string (str (digs (bytes a))), .bool (negB (bytes a))]) ∧ Below w.heap.size w w' := by
  have fin : Calls Tryz.prog 83 #[.string a] w (RD (fun d n => d = str (digs (bytes a)) ∧ n = negB (bytes a)) w) := by
    by_cases h0 : 0 < a.size
    · cases h1 : ((a[0].toNat : Int) == 45) with
      | true =>
        have hc : a[0] = 45 := by have := eq_of_beq h1; apply UInt8.toNat_inj.1; show _ = 45; omega
        have hh : (bytes a).head? = some 45 := by rw [head_bytes a h0, hc]
        have hb : bare (bytes a) = bytes (a.extract 1 a.size) := by unfold bare; rw [if_pos hh, bytes_ext]
        refine rdigits_neg a _ w ha h0 h1 rfl (by have := size_ext a; omega) _ ?_ ?_
        · intro h
          unfold negB digs
          rw [hb, if_pos h, decide_eq_true hh]
          exact ⟨rfl, rfl⟩
        · intro h
          unfold negB digs
          rw [hb, if_neg (by rw [h]; decide)]
          exact ⟨rfl, by simp⟩
      | false =>
        have hc : a[0] ≠ 45 := by intro e; rw [e] at h1; cases h1
        have hh : (bytes a).head? ≠ some 45 := by rw [head_bytes a h0]; simpa using hc
        have hb : bare (bytes a) = bytes a := by unfold bare; rw [if_neg hh]
        refine rdigits_pos a w ha h0 h1 _ ?_ ?_
        · intro h
          unfold negB digs
          rw [hb, if_pos h, decide_eq_false hh]
          exact ⟨rfl, rfl⟩
        · intro h
          unfold negB digs
          rw [hb, if_neg (by rw [h]; decide), decide_eq_false hh]
          exact ⟨rfl, rfl⟩
    · have hn : bytes a = [] := by rw [← List.length_eq_zero_iff, ← size_bytes]; omega
      refine rdigits_nil a w ha (by omega) _ ?_ ?_
      · intro _; rw [hn]; exact ⟨rfl, rfl⟩
      · intro _; rw [hn]; exact ⟨rfl, rfl⟩
  refine fin.mono ?_
  rintro e w' ⟨d, n, rfl, ⟨rfl, rfl⟩, hb⟩
  exact ⟨rfl, hb⟩

set_option maxHeartbeats 1000000 in
theorem rcanonical_any (a : ByteArray) (w : World) (ha : a.size ≤ 4611686018427387904) :
    Calls Tryz.prog 44 #[.string a] w fun e w' => e = .returned (.string (canS (valS a))) ∧ Below w.heap.size w w' := by
  have HE : Hid (canS (valS a) = if negB (bytes a) then str (45 :: digs (bytes a)) else str (digs (bytes a))) := by
    show _ = _
    unfold canS valS
    rw [canon_val]
    split <;> rfl
  have H1 := Lib.hid (fun w => rdigits_any a w (by omega))
  have hl : (str (digs (bytes a))).size ≤ a.size := by rw [size_str, size_bytes a]; exact digs_len _
  have HC := Lib.hid (str_cons 45 (digs (bytes a)))
  cases hn : negB (bytes a) with
  | true =>
    rw [hn] at H1 HE
    generalize str (digs (bytes a)) = t at *
    clear hn
    go_enter Tryz.func44, Tryz.ntmps44
    go_wp2_with fail
    refine (H1.out _).mono ?_
    rintro e w1 ⟨rfl, hb1⟩
    go_wp2_with fail
    go_ret
    exact ⟨by rw [HE.out, ← HC.out]; rfl, hb1⟩
  | false =>
    rw [hn] at H1 HE
    generalize str (digs (bytes a)) = t at *
    clear hn
    go_enter Tryz.func44, Tryz.ntmps44
    go_wp2_with fail
    refine (H1.out _).mono ?_
    rintro e w1 ⟨rfl, hb1⟩
    go_wp2_with fail
    go_ret
    exact ⟨by rw [HE.out]; rfl, hb1⟩
end Go.Proofs.YtahpbnmbphobgaaGreatDoor
namespace Go.Proofs.YtahpbnmbphobgaaGreatDoor
open Go.RowKit Go.Shelf Dec



end Go.Proofs.YtahpbnmbphobgaaGreatDoor
namespace Go.Proofs.YtahpbnmbphobgaaGreatDoor
open Go.RowKit Go.Shelf Dec

theorem natOf_take_succ (l : Bytes) (k : Nat) (d : UInt8) (h : l[k]? = some d) : natOf (l.take (k + 1)) = 10 * natOf (l.take k) + (d.toNat - 48) := by
  rw [List.take_add_one, h]
  simp only [Option.toList_some]
  rw [natOf_append, natOf_one]
  simp
  omega
theorem dig_at {t : ByteArray} (h : ∀ d ∈ bytes t, isDig d = true) (k : Nat) (hk : k < t.size) : 48 ≤ t[k].toNat ∧ t[k].toNat ≤ 57 := by
  have := h t[k] (List.mem_of_getElem? (get_bytes t k hk))
  unfold isDig at this
  exact of_decide_eq_true this
theorem natOf_take_lt {l : Bytes} (h : ∀ d ∈ l, isDig d = true) {k m : Nat} (hm : k ≤ m) : natOf (l.take k) < 10 ^ m := by
  have h1 := natOf_lt (l.take k) (fun d hd => h d (List.mem_of_mem_take hd))
  have h2 : 10 ^ (l.take k).length ≤ 10 ^ m := Nat.pow_le_pow_right (by omega) (by rw [List.length_take]; omega)
  omega
/-- what short hands back -/
def shortR (a : ByteArray) : Int × Bool := if (digs (bytes a)).length ≤ 17 then (valS a, true) else (0, false)
theorem ret_ib {m n : Int} {a b : Bool} (h : (m, a) = (n, b)) : Ending.returned (.tuple #[.int .i64 m, .bool a]) = .returned (.tuple #[.int .i64 n, .bool b]) := by injection h with h1 h2; rw [h1, h2]
theorem valS_eq (a : ByteArray) : valS a = if negB (bytes a) then -(natOf (digs (bytes a)) : Int) else natOf (digs (bytes a)) := rfl

set_option maxHeartbeats 1000000 in
theorem rshort_any (a : ByteArray) (w : World) (ha : a.size ≤ 4611686018427387904) :
    Calls Tryz.prog 46 #[.string a] w fun e w' => e = .returned (.tuple #[.int .i64 (shortR a).1, .bool (shortR a).2]) ∧ Below w.heap.size w w' := by
  obtain ⟨t, ht⟩ : ∃ t, str (digs (bytes a)) = t := ⟨_, rfl⟩
  have HT : Hid (bytes t = digs (bytes a)) := by show _ = _; rw [← ht, bytes_str]
  have hts : t.size ≤ a.size := by rw [← ht, size_str, size_bytes a]; exact digs_len _
  have H1 : Hid (∀ w, Calls Tryz.prog 83 #[.string a] w fun e w' => e = .returned (.tuple #[.string t, .bool (negB (bytes a))]) ∧ Below w.heap.size w w') := by
    intro w; rw [← ht]; exact rdigits_any a w (by omega)
  have HD : Hid (∀ d ∈ bytes t, isDig d = true) := by show ∀ d ∈ bytes t, _; rw [HT.out]; exact digs_dig _
  have HV : Hid (valS a = if negB (bytes a) then -(natOf (bytes t) : Int) else natOf (bytes t)) := by show _ = _; rw [HT.out]; rfl
  have HS : Hid (shortR a = if t.size ≤ 17 then (valS a, true) else (0, false)) := by show _ = _; unfold shortR; rw [size_bytes t, HT.out]
  generalize negB (bytes a) = ng at *
  clear ht HT
  by_cases hl : t.size ≤ 17
  · have q : decide ((17 : Int) < (t.size : Int)) = false := decide_eq_false (by omega)
    go_enter Tryz.func46, Tryz.ntmps46
    go_wp2_with fail
    refine (H1.out _).mono ?_
    rintro e w1 ⟨rfl, hb1⟩
    have HB := Lib.hid hb1
    clear hb1 q
    go_wp2_with fail
    go_loop [7, 6] (fun s u => ∃ (k n : Nat), k ≤ t.size ∧ n < 100000000000000000 ∧ s = .int .i64 (k : Int) ∧ u = .int .i64 (n : Int) ∧ Hid (natOf ((bytes t).take k) = n)) (fun s _ => (t.size - intOf s).toNat)
    case atStart => exact ⟨0, 0, by omega, by omega, rfl, rfl, rfl⟩
    case round =>
      obtain ⟨k, n, hk, hn, rfl, rfl, HN⟩ := hrel
      by_cases hkt : k = t.size
      · have q0 : decide ((k : Int) < (t.size : Int)) = false := decide_eq_false (by omega)
        have HE : Hid (natOf (bytes t) = n) := by
          show _ = _
          rw [← HN.out, List.take_of_length_le (by rw [← size_bytes]; omega)]
        cases ng with
        | true =>
          go_wp2_with fail
          go_ret2
          exact ⟨ret_ib (by rw [HS.out, if_pos hl, HV.out, HE.out]; rfl), HB.out⟩
        | false =>
          go_wp2_with fail
          go_ret2
          exact ⟨ret_ib (by rw [HS.out, if_pos hl, HV.out, HE.out]; rfl), HB.out⟩
      · have hkl : k < t.size := by omega
        have q0 : decide ((k : Int) < (t.size : Int)) = true := decide_eq_true (by omega)
        have hd := dig_at HD.out k hkl
        have hd1 := hd.1
        have hd2 := hd.2
        have HG := Lib.hid (natOf_take_succ (bytes t) k _ (get_bytes t k hkl))
        have hn2 : 10 * n + (t[k].toNat - 48) < 100000000000000000 := by
          rw [← HN.out, ← HG.out]
          exact natOf_take_lt (k := k + 1) (m := 17) HD.out (by omega)
        clear hd
        go_wp2_with fail
        go_round
        case rel =>
          refine ⟨k + 1, 10 * n + (t[k].toNat - 48), by omega, hn2, by go_num, by congr 1; omega, ?_⟩
          show _ = _
          rw [HG.out, HN.out]
        case measure => simp [intOf]; omega
  · have q : decide ((17 : Int) < (t.size : Int)) = true := decide_eq_true (by omega)
    go_enter Tryz.func46, Tryz.ntmps46
    go_wp2_with fail
    refine (H1.out _).mono ?_
    rintro e w1 ⟨rfl, hb1⟩
    have HB := Lib.hid hb1
    clear hb1
    go_wp2_with fail
    go_ret2
    exact ⟨ret_ib (by rw [HS.out, if_neg hl]), HB.out⟩
end Go.Proofs.YtahpbnmbphobgaaGreatDoor
namespace Go.Proofs.YtahpbnmbphobgaaGreatDoor
open Go.RowKit Go.Shelf Dec

theorem enc_dig (q : Nat) : Utf8.encode (48 + ((q % 10 : Nat) : Int)) = str [digB q] := by
  have h : q % 10 < 10 := Nat.mod_lt _ (by omega)
  unfold digB
  generalize q % 10 = r at *
  match r, h with
  | 0, _ => decide +kernel
  | 1, _ => decide +kernel
  | 2, _ => decide +kernel
  | 3, _ => decide +kernel
  | 4, _ => decide +kernel
  | 5, _ => decide +kernel
  | 6, _ => decide +kernel
  | 7, _ => decide +kernel
  | 8, _ => decide +kernel
  | 9, _ => decide +kernel
theorem str_app2 (a b : Bytes) : str a ++ str b = str (a ++ b) := by apply bytes_inj; rw [bytes_str]; simp [bytes, str]
theorem dec_more {N q : Nat} {ds : Bytes} (hq : q ≠ 0) (h : dec N = dec q ++ ds) : dec N = dec (q / 10) ++ (digB q :: ds) := by
  rw [h, dec_pos hq]
  simp
theorem ds_len {N q : Nat} {ds : Bytes} (hN : N ≤ 9223372036854775808) (h : dec N = dec q ++ ds) : ds.length ≤ 19 := by
  have h1 : (dec N).length ≤ 19 := dec_len.2 (by omega)
  rw [h, List.length_append] at h1
  omega

set_option maxRecDepth 100000 in
set_option maxHeartbeats 1000000 in
theorem rof_pos0 (f : Int → ByteArray) (hf : ∀ (n : Int) (u : World), (convert 21 9 (.int .i32 n)).run Tryz.prog u = .ok (.string (f n)) u) (hfd : Hid (∀ q : Nat, f (48 + ((q % 10 : Nat) : Int)) = str [digB q])) (n : Nat) (w : World) (h0 : 0 < n) (h1 : n ≤ 9223372036854775807) :
    Calls Tryz.prog 47 #[.int .i64 (n : Int)] w fun e w' => e = .returned (.string (str (dec n))) ∧ w' = w := by
  have q0 : ((n : Int) == 0) = false := by simp; omega
  have q1 : decide ((n : Int) < 0) = false := decide_eq_false (by omega)
  go_enter Tryz.func47, Tryz.ntmps47
  go_wp2_with fail
  go_loop [4, 3] (fun s u => ∃ (q : Nat) (t : ByteArray), q ≤ 9223372036854775807 ∧ t.size ≤ 19 ∧ s = .int .i64 (q : Int) ∧ u = .string t ∧ Hid (dec n = dec q ++ bytes t)) (fun s _ => (intOf s).toNat)
  case atStart => exact ⟨n, ⟨#[]⟩, h1, by decide, rfl, rfl, by show _ = _; simp [bytes]⟩
  case round =>
    obtain ⟨q, t, hq, ht, rfl, rfl, H⟩ := hrel
    by_cases hq0 : q = 0
    · subst hq0
      have HE : Hid (str (dec n) = t) := by show _ = _; rw [H.out, dec_zero, List.nil_append, str_bytes]
      go_wp2_with fail
      go_ret
      exact ⟨by rw [HE.out]; rfl, rfl⟩
    · have q2 : ((q : Int) == 0) = false := by simp; omega
      have q3 : decide (((q : Int) % 10) < 0) = false := decide_eq_false (by omega)
      have HX : Hid (f (48 + (q : Int) % 10) = str [digB q]) := by
        have := hfd.out q
        rwa [Int.natCast_emod] at this
      obtain ⟨x, hx⟩ : ∃ x, f (48 + (q : Int) % 10) = x := ⟨_, rfl⟩
      have HX2 : Hid (x = str [digB q]) := by show _ = _; rw [← hx, HX.out]
      have hxs : x.size = 1 := by rw [HX2.out, size_str]; rfl
      have HDM := Lib.hid (dec_more hq0 H.out)
      have HL := Lib.hid (ds_len (by omega) HDM.out)
      have HB : Hid (bytes (x ++ t) = digB q :: bytes t) := by
        show _ = _
        rw [HX2.out]
        conv => lhs; rw [← str_bytes t]
        rw [str_app2, bytes_str]
        rfl
      clear HX
      go_wp2_with fail
      go_round
      case rel =>
        refine ⟨q / 10, x ++ t, by omega, ?_, by go_num, rfl, ?_⟩
        · rw [size_bytes, HB.out]; exact HL.out
        · show _ = _
          rw [HB.out]; exact HDM.out
      case measure => simp [intOf]; omega

set_option maxRecDepth 100000 in
set_option maxHeartbeats 1000000 in
theorem rof_neg0 (f : Int → ByteArray) (hf : ∀ (n : Int) (u : World), (convert 21 9 (.int .i32 n)).run Tryz.prog u = .ok (.string (f n)) u) (hfd : Hid (∀ q : Nat, f (48 + ((q % 10 : Nat) : Int)) = str [digB q])) (n : Nat) (w : World) (h0 : 0 < n) (h1 : n ≤ 9223372036854775808) :
    Calls Tryz.prog 47 #[.int .i64 (-(n : Int))] w fun e w' => e = .returned (.string (str (45 :: dec n))) ∧ w' = w := by
  have q0 : ((-(n : Int)) == 0) = false := by simp; omega
  have q1 : decide ((-(n : Int)) < 0) = true := decide_eq_true (by omega)
  go_enter Tryz.func47, Tryz.ntmps47
  go_wp2_with fail
  go_loop [4, 3] (fun s u => ∃ (q : Nat) (t : ByteArray), q ≤ 9223372036854775808 ∧ t.size ≤ 19 ∧ s = .int .i64 (-(q : Int)) ∧ u = .string t ∧ Hid (dec n = dec q ++ bytes t)) (fun s _ => (-(intOf s)).toNat)
  case atStart => exact ⟨n, ⟨#[]⟩, h1, by decide, rfl, rfl, by show _ = _; simp [bytes]⟩
  case round =>
    obtain ⟨q, t, hq, ht, rfl, rfl, H⟩ := hrel
    by_cases hq0 : q = 0
    · subst hq0
      have HE : Hid (str (dec n) = t) := by show _ = _; rw [H.out, dec_zero, List.nil_append, str_bytes]
      have HC := Lib.hid (str_cons 45 (dec n))
      rw [HE.out] at HC
      go_wp2_with fail
      go_ret
      exact ⟨by rw [← HC.out]; rfl, rfl⟩
    · have q2 : ((-(q : Int)) == 0) = false := by simp; omega
      have hr : (-(q : Int)).tmod 10 = -((q % 10 : Nat) : Int) := by rw [Int.neg_tmod]; rfl
      have hd : (-(q : Int)).tdiv 10 = -((q / 10 : Nat) : Int) := by rw [Int.neg_tdiv]; rfl
      obtain ⟨x, hx⟩ : ∃ x, f (48 + ((q % 10 : Nat) : Int)) = x := ⟨_, rfl⟩
      have HX2 : Hid (x = str [digB q]) := by show _ = _; rw [← hx, hfd.out]
      have hxs : x.size = 1 := by rw [HX2.out, size_str]; rfl
      have HDM := Lib.hid (dec_more hq0 H.out)
      have HL := Lib.hid (ds_len (by omega) HDM.out)
      have HB : Hid (bytes (x ++ t) = digB q :: bytes t) := by
        show _ = _
        rw [HX2.out]
        conv => lhs; rw [← str_bytes t]
        rw [str_app2, bytes_str]
        rfl
      have hm : q % 10 < 10 := Nat.mod_lt _ (by omega)
      have hdv : q / 10 < q := by omega
      generalize hqm : q % 10 = r at *
      generalize hqd : q / 10 = p at *
      have HQD := Lib.hid hqd
      clear hqm hqd
      by_cases hr0 : r = 0
      · have q3 : decide (-(r : Int) < 0) = false := decide_eq_false (by omega)
        have hx0 : f (48 + -(r : Int)) = x := by rw [← hx, hr0]; rfl
        have hx1 : f (48 - (r : Int)) = x := by rw [← hx, hr0]; rfl
        have hx2 : f 48 = x := by rw [← hx, hr0]; rfl
        have hri : (r : Int) = 0 := by omega
        clear hx
        go_wp2_with fail
        go_round
        case rel =>
          refine ⟨p, x ++ t, by omega, ?_, rfl, rfl, ?_⟩
          · rw [size_bytes, HB.out]; exact HL.out
          · show _ = _
            rw [HB.out]; exact HDM.out
        case measure => simp [intOf]; omega
      · have q3 : decide (-(r : Int) < 0) = true := decide_eq_true (by omega)
        go_wp2_with fail
        go_round
        case rel =>
          refine ⟨p, x ++ t, by omega, ?_, rfl, rfl, ?_⟩
          · rw [size_bytes, HB.out]; exact HL.out
          · show _ = _
            rw [HB.out]; exact HDM.out
        case measure => simp [intOf]; omega
theorem run_rune (n : Int) (u : World) : (convert 21 9 (.int .i32 n)).run Tryz.prog u = .ok (.string (Utf8.encode n)) u := run_convert_int_string u _ _ _ _ (by kernel_rfl) (by kernel_rfl)
theorem rof_pos (n : Nat) (w : World) (h0 : 0 < n) (h1 : n ≤ 9223372036854775807) :
    Calls Tryz.prog 47 #[.int .i64 (n : Int)] w fun e w' => e = .returned (.string (str (dec n))) ∧ w' = w := rof_pos0 _ run_rune enc_dig n w h0 h1
theorem rof_neg (n : Nat) (w : World) (h0 : 0 < n) (h1 : n ≤ 9223372036854775808) :
    Calls Tryz.prog 47 #[.int .i64 (-(n : Int))] w fun e w' => e = .returned (.string (str (45 :: dec n))) ∧ w' = w := rof_neg0 _ run_rune enc_dig n w h0 h1
theorem rof_any (n : Int) (w : World) (h0 : -9223372036854775808 ≤ n) (h1 : n ≤ 9223372036854775807) :
    Calls Tryz.prog 47 #[.int .i64 n] w fun e w' => e = .returned (.string (canS n)) ∧ Below w.heap.size w w' := by
  rcases Int.lt_trichotomy n 0 with h | h | h
  · obtain ⟨m, rfl⟩ : ∃ m : Nat, n = -(m : Int) := ⟨n.natAbs, by omega⟩
    refine (rof_neg m w (by omega) (by omega)).mono ?_
    rintro e w' ⟨rfl, rfl⟩
    refine ⟨?_, Below.refl _ _⟩
    unfold canS canon
    rw [if_pos h, show (-(m : Int)).natAbs = m by omega]
  · subst h
    go_enter Tryz.func47, Tryz.ntmps47
    go_wp2_with fail
    go_ret
    exact ⟨rfl, Below.refl _ _⟩
  · obtain ⟨m, rfl⟩ : ∃ m : Nat, n = (m : Int) := ⟨n.natAbs, by omega⟩
    refine (rof_pos m w (by omega) (by omega)).mono ?_
    rintro e w' ⟨rfl, rfl⟩
    refine ⟨?_, Below.refl _ _⟩
    unfold canS canon
    rw [if_neg (by omega)]
    rfl
end Go.Proofs.YtahpbnmbphobgaaGreatDoor
namespace Go.Proofs.YtahpbnmbphobgaaGreatDoor
open Go.RowKit Go.Shelf Dec

theorem toList_bytes (s : ByteArray) : s.toList = bytes s := by
  unfold bytes
  rw [ByteArray.toList_eq]
theorem natOf_take_le (l : Bytes) (k : Nat) : natOf (l.take k) ≤ natOf l := by
  conv => rhs; rw [← List.take_append_drop k l]
  rw [natOf_append]
  have : natOf (l.take k) * 1 ≤ natOf (l.take k) * 10 ^ (l.drop k).length := Nat.mul_le_mul_left _ (Nat.pow_pos (by omega))
  omega
theorem less_natOf : ∀ (s t : Bytes), s.length = t.length → (∀ d ∈ s, isDig d = true) → (∀ d ∈ t, isDig d = true) → Op.bytesLess s t = decide (natOf s < natOf t) := by
  intro s
  induction s with
  | nil => intro t hl _ _; cases t with
    | nil => rfl
    | cons _ _ => cases hl
  | cons a s ih =>
    intro t hl hs ht
    cases t with
    | nil => cases hl
    | cons b t =>
      have hl2 : s.length = t.length := by simpa using hl
      have h1 := natOf_lt s (fun d hd => hs d (List.mem_cons_of_mem _ hd))
      have h2 := natOf_lt t (fun d hd => ht d (List.mem_cons_of_mem _ hd))
      have h3 := ih t hl2 (fun d hd => hs d (List.mem_cons_of_mem _ hd)) (fun d hd => ht d (List.mem_cons_of_mem _ hd))
      have ha := hs a List.mem_cons_self
      have hb := ht b List.mem_cons_self
      unfold isDig at ha hb
      have ha := of_decide_eq_true ha
      have hb := of_decide_eq_true hb
      rw [natOf_cons, natOf_cons, hl2]
      rw [hl2] at h1
      show (a < b || (a == b && Op.bytesLess s t)) = _
      rw [h3]
      generalize 10 ^ t.length = P at *
      generalize natOf s = x at *
      generalize natOf t = y at *
      rcases Nat.lt_trichotomy a.toNat b.toNat with h | h | h
      · have e1 : decide (a < b) = true := decide_eq_true (UInt8.lt_iff_toNat_lt.2 h)
        rw [e1, Bool.true_or]
        symm
        apply decide_eq_true
        have h5 : (a.toNat - 48 + 1) * P ≤ (b.toNat - 48) * P := Nat.mul_le_mul_right _ (by omega)
        rw [Nat.add_mul] at h5
        omega
      · have e0 : a = b := UInt8.toNat_inj.1 h
        subst e0
        have e1 : decide (a < a) = false := decide_eq_false (fun hh => Nat.lt_irrefl _ (UInt8.lt_iff_toNat_lt.1 hh))
        rw [e1, Bool.false_or, beq_self_eq_true, Bool.true_and]
        exact decide_eq_decide.2 (by omega)
      · have e1 : decide (a < b) = false := decide_eq_false (fun hh => by have := UInt8.lt_iff_toNat_lt.1 hh; omega)
        have e2 : (a == b) = false := by rw [beq_eq_false_iff_ne]; intro e; rw [e] at h; omega
        rw [e1, e2, Bool.false_and, Bool.false_or]
        symm
        apply decide_eq_false
        have h5 : (b.toNat - 48 + 1) * P ≤ (a.toNat - 48) * P := Nat.mul_le_mul_right _ (by omega)
        rw [Nat.add_mul] at h5
        omega
theorem natOf_inj_len {s t : Bytes} (hl : s.length = t.length) (hs : ∀ d ∈ s, isDig d = true) (ht : ∀ d ∈ t, isDig d = true) (h : natOf s = natOf t) : s = t := by
  induction s generalizing t with
  | nil => cases t with
    | nil => rfl
    | cons _ _ => cases hl
  | cons a s ih =>
    cases t with
    | nil => cases hl
    | cons b t =>
      have hl2 : s.length = t.length := by simpa using hl
      have h1 := natOf_lt s (fun d hd => hs d (List.mem_cons_of_mem _ hd))
      have h2 := natOf_lt t (fun d hd => ht d (List.mem_cons_of_mem _ hd))
      have ha := hs a List.mem_cons_self
      have hb := ht b List.mem_cons_self
      unfold isDig at ha hb
      have ha := of_decide_eq_true ha
      have hb := of_decide_eq_true hb
      rw [natOf_cons, natOf_cons, hl2] at h
      rw [hl2] at h1
      have key : a.toNat = b.toNat := by
        generalize 10 ^ t.length = P at *
        rcases Nat.lt_trichotomy a.toNat b.toNat with h3 | h3 | h3
        · have h5 : (a.toNat - 48 + 1) * P ≤ (b.toNat - 48) * P := Nat.mul_le_mul_right _ (by omega)
          rw [Nat.add_mul] at h5
          omega
        · exact h3
        · have h5 : (b.toNat - 48 + 1) * P ≤ (a.toNat - 48) * P := Nat.mul_le_mul_right _ (by omega)
          rw [Nat.add_mul] at h5
          omega
      have e0 : a = b := UInt8.toNat_inj.1 key
      subst e0
      rw [ih hl2 (fun d hd => hs d (List.mem_cons_of_mem _ hd)) (fun d hd => ht d (List.mem_cons_of_mem _ hd)) (by omega)]
/-- comparing two strings of as many digits -/
theorem less_S {s t : ByteArray} (hl : s.size = t.size) (hs : ∀ d ∈ bytes s, isDig d = true) (ht : ∀ d ∈ bytes t, isDig d = true) : Op.bytesLess s.toList t.toList = decide (natOf (bytes s) < natOf (bytes t)) := by
  rw [toList_bytes, toList_bytes]
  exact less_natOf _ _ (by rw [← size_bytes, ← size_bytes]; exact hl) hs ht
theorem eq_S {s t : ByteArray} (hl : s.size = t.size) (hs : ∀ d ∈ bytes s, isDig d = true) (ht : ∀ d ∈ bytes t, isDig d = true) : (s.toList == t.toList) = decide (natOf (bytes s) = natOf (bytes t)) := by
  rw [toList_beq]
  apply decide_eq_decide.2
  constructor
  · intro h; rw [h]
  · intro h; exact bytes_inj (natOf_inj_len (by rw [← size_bytes, ← size_bytes]; exact hl) hs ht h)
theorem natOf_big {s : Bytes} (h0 : ∀ d, s.head? = some d → d ≠ 48) (h : ∀ d ∈ s, isDig d = true) {k : Nat} (hk : k < s.length) : 10 ^ k ≤ natOf s := by
  have h1 := dec_natOf s h h0
  rcases Nat.lt_or_ge (natOf s) (10 ^ k) with h2 | h2
  · have := dec_len.2 h2
    rw [h1] at this
    omega
  · exact h2
end Go.Proofs.YtahpbnmbphobgaaGreatDoor
namespace Go.Proofs.YtahpbnmbphobgaaGreatDoor
open Go.RowKit Go.Shelf Dec

theorem cmp_lt {x y : Int} (h : x < y) : cmpI x y = -1 := by unfold cmpI; rw [if_pos h]
theorem cmp_gt {x y : Int} (h : y < x) : cmpI x y = 1 := by unfold cmpI; rw [if_neg (by omega), if_neg (by omega)]
theorem cmp_eq {x y : Int} (h : x = y) : cmpI x y = 0 := by unfold cmpI; rw [if_neg (by omega), if_pos h]
theorem natOf_len_lt {s t : Bytes} (hs : ∀ d ∈ s, isDig d = true) (ht : ∀ d ∈ t, isDig d = true) (h0 : ∀ d, t.head? = some d → d ≠ 48) (h : s.length < t.length) : natOf s < natOf t := by
  have h1 := natOf_lt s hs
  have h2 := natOf_big h0 ht (k := t.length - 1) (by omega)
  have h3 : 10 ^ s.length ≤ 10 ^ (t.length - 1) := Nat.pow_le_pow_right (by omega) (by omega)
  omega
theorem natOf_pos {s : Bytes} (hs : ∀ d ∈ s, isDig d = true) (h0 : ∀ d, s.head? = some d → d ≠ 48) (h : s ≠ []) : 0 < natOf s := by
  cases s with
  | nil => exact absurd rfl h
  | cons d s =>
    have := natOf_big h0 hs (k := 0) (by simp)
    omega


set_option maxHeartbeats 1000000 in
theorem rcheck_any (a : ByteArray) (w : World) (ha : a.size ≤ 4611686018427387904) :
    Calls Tryz.prog 17 #[.string a] w fun e w' => e = .returned (.int .i64 (chk a)) ∧ Below w.heap.size w w' := by
  have H1 := Lib.hid (fun w => rcanonical_any a w ha)
  generalize hc : canS (valS a) = t at H1
  by_cases h : a = t
  · have HE : Hid (chk a = 0) := by show _ = _; unfold chk; rw [hc, if_pos h]
    have q : (t.toList == a.toList) = true := by rw [toList_beq, decide_eq_true h.symm]
    clear hc h
    go_enter Tryz.func17, Tryz.ntmps17
    go_wp2_with fail
    refine (H1.out _).mono ?_
    rintro e w1 ⟨rfl, hb1⟩
    go_wp2_with fail
    go_ret
    exact ⟨ret_int (by rw [HE.out]), hb1⟩
  · have HE : Hid (chk a = 1) := by show _ = _; unfold chk; rw [hc, if_neg h]
    have q : (t.toList == a.toList) = false := by rw [toList_beq, decide_eq_false (fun e => h e.symm)]
    clear hc h
    go_enter Tryz.func17, Tryz.ntmps17
    go_wp2_with fail
    refine (H1.out _).mono ?_
    rintro e w1 ⟨rfl, hb1⟩
    go_wp2_with fail
    go_ret
    exact ⟨ret_int (by rw [HE.out]), hb1⟩

set_option maxHeartbeats 1000000 in
theorem rcmp_true_true (a b t u : ByteArray) (y z : Int) (w : World) (_hts : t.size ≤ 4611686018427387904) (_hus : u.size ≤ 4611686018427387904)
    (H1 : Hid (∀ w, Calls Tryz.prog 83 #[.string a] w fun e w' => e = .returned (.tuple #[.string t, .bool true]) ∧ Below w.heap.size w w'))
    (H2 : Hid (∀ w, Calls Tryz.prog 83 #[.string b] w fun e w' => e = .returned (.tuple #[.string u, .bool true]) ∧ Below w.heap.size w w'))
    (HD : Hid (∀ d ∈ bytes t, isDig d = true)) (HH : Hid (∀ d, (bytes t).head? = some d → d ≠ 48)) (HD' : Hid (∀ d ∈ bytes u, isDig d = true)) (HH' : Hid (∀ d, (bytes u).head? = some d → d ≠ 48)) (HV : Hid (y = -(natOf (bytes t) : Int))) (HV' : Hid (z = -(natOf (bytes u) : Int)))
    (_HY : Hid (y < 0)) (_HZ : Hid (z < 0)) :
    Calls Tryz.prog 45 #[.string a, .string b] w fun e w' => e = .returned (.int .i64 (cmpI y z)) ∧ Below w.heap.size w w' := by
  have HR0 : Hid ((natOf (bytes t) < natOf (bytes u) → cmpI y z = 1) ∧ (natOf (bytes u) < natOf (bytes t) → cmpI y z = -1) ∧ (natOf (bytes t) = natOf (bytes u) → cmpI y z = 0)) :=
    ⟨fun h => cmp_gt (by have h1 := HV.out; have h2 := HV'.out; omega), fun h => cmp_lt (by have h1 := HV.out; have h2 := HV'.out; omega), fun h => cmp_eq (by have h1 := HV.out; have h2 := HV'.out; omega)⟩
  by_cases hl : t.size = u.size
  · have q1 : ((t.size : Int) == (u.size : Int)) = true := by rw [hl]; simp
    have q1n : ((t.size : Int) != (u.size : Int)) = false := by rw [hl]; simp
    have HL := Lib.hid (less_S hl HD.out HD'.out)
    have HQ := Lib.hid (eq_S hl HD.out HD'.out)
    clear hl
    rcases Nat.lt_trichotomy (natOf (bytes t)) (natOf (bytes u)) with h | h | h
    · have HR := Lib.hid (HR0.out.1 h)
      have q3 : Op.bytesLess t.toList u.toList = true := HL.out.trans (decide_eq_true h)
      clear HL HQ h
      go_enter Tryz.func45, Tryz.ntmps45
      go_wp2_with fail
      refine (H1.out _).mono ?_
      rintro e w1 ⟨rfl, hb1⟩
      have HB1 := Lib.hid hb1
      clear hb1
      go_wp2_with fail
      refine (H2.out _).mono ?_
      rintro e w2 ⟨rfl, hb2⟩
      have HB2 := Lib.hid (HB1.out.trans (hb2.mono HB1.out.size))
      clear hb2
      go_wp2_with fail
      go_ret
      exact ⟨ret_int (by rw [HR.out]), HB2.out⟩
    · have HR := Lib.hid (HR0.out.2.2 h)
      have q3 : Op.bytesLess t.toList u.toList = false := HL.out.trans (decide_eq_false (by omega))
      have q4 : (t.toList == u.toList) = true := HQ.out.trans (decide_eq_true h)
      clear HL HQ h
      go_enter Tryz.func45, Tryz.ntmps45
      go_wp2_with fail
      refine (H1.out _).mono ?_
      rintro e w1 ⟨rfl, hb1⟩
      have HB1 := Lib.hid hb1
      clear hb1
      go_wp2_with fail
      refine (H2.out _).mono ?_
      rintro e w2 ⟨rfl, hb2⟩
      have HB2 := Lib.hid (HB1.out.trans (hb2.mono HB1.out.size))
      clear hb2
      go_wp2_with fail
      go_ret
      exact ⟨ret_int (by rw [HR.out]), HB2.out⟩
    · have HR := Lib.hid (HR0.out.2.1 h)
      have q3 : Op.bytesLess t.toList u.toList = false := HL.out.trans (decide_eq_false (by omega))
      have q4 : (t.toList == u.toList) = false := HQ.out.trans (decide_eq_false (by omega))
      clear HL HQ h
      go_enter Tryz.func45, Tryz.ntmps45
      go_wp2_with fail
      refine (H1.out _).mono ?_
      rintro e w1 ⟨rfl, hb1⟩
      have HB1 := Lib.hid hb1
      clear hb1
      go_wp2_with fail
      refine (H2.out _).mono ?_
      rintro e w2 ⟨rfl, hb2⟩
      have HB2 := Lib.hid (HB1.out.trans (hb2.mono HB1.out.size))
      clear hb2
      go_wp2_with fail
      go_ret
      exact ⟨ret_int (by rw [HR.out]), HB2.out⟩
  · have q1n : ((t.size : Int) != (u.size : Int)) = true := by simp; omega
    by_cases hlt : t.size < u.size
    · have q2 : decide ((t.size : Int) < (u.size : Int)) = true := decide_eq_true (by omega)
      have HR := Lib.hid (HR0.out.1 (natOf_len_lt HD.out HD'.out HH'.out (by rw [← size_bytes, ← size_bytes]; exact hlt)))
      go_enter Tryz.func45, Tryz.ntmps45
      go_wp2_with fail
      refine (H1.out _).mono ?_
      rintro e w1 ⟨rfl, hb1⟩
      have HB1 := Lib.hid hb1
      clear hb1
      go_wp2_with fail
      refine (H2.out _).mono ?_
      rintro e w2 ⟨rfl, hb2⟩
      have HB2 := Lib.hid (HB1.out.trans (hb2.mono HB1.out.size))
      clear hb2
      go_wp2_with fail
      go_ret
      exact ⟨ret_int (by rw [HR.out]), HB2.out⟩
    · have q2 : decide ((t.size : Int) < (u.size : Int)) = false := decide_eq_false (by omega)
      have HR := Lib.hid (HR0.out.2.1 (natOf_len_lt HD'.out HD.out HH.out (by rw [← size_bytes, ← size_bytes]; omega)))
      go_enter Tryz.func45, Tryz.ntmps45
      go_wp2_with fail
      refine (H1.out _).mono ?_
      rintro e w1 ⟨rfl, hb1⟩
      have HB1 := Lib.hid hb1
      clear hb1
      go_wp2_with fail
      refine (H2.out _).mono ?_
      rintro e w2 ⟨rfl, hb2⟩
      have HB2 := Lib.hid (HB1.out.trans (hb2.mono HB1.out.size))
      clear hb2
      go_wp2_with fail
      go_ret
      exact ⟨ret_int (by rw [HR.out]), HB2.out⟩
set_option maxHeartbeats 1000000 in
theorem rcmp_true_false (a b t u : ByteArray) (y z : Int) (w : World) (_hts : t.size ≤ 4611686018427387904) (_hus : u.size ≤ 4611686018427387904)
    (H1 : Hid (∀ w, Calls Tryz.prog 83 #[.string a] w fun e w' => e = .returned (.tuple #[.string t, .bool true]) ∧ Below w.heap.size w w'))
    (H2 : Hid (∀ w, Calls Tryz.prog 83 #[.string b] w fun e w' => e = .returned (.tuple #[.string u, .bool false]) ∧ Below w.heap.size w w'))
    (_HD : Hid (∀ d ∈ bytes t, isDig d = true)) (_HH : Hid (∀ d, (bytes t).head? = some d → d ≠ 48)) (_HD' : Hid (∀ d ∈ bytes u, isDig d = true)) (_HH' : Hid (∀ d, (bytes u).head? = some d → d ≠ 48)) (_HV : Hid (y = -(natOf (bytes t) : Int))) (_HV' : Hid (z = (natOf (bytes u) : Int)))
    (HY : Hid (y < 0)) (HZ : Hid (0 ≤ z)) :
    Calls Tryz.prog 45 #[.string a, .string b] w fun e w' => e = .returned (.int .i64 (cmpI y z)) ∧ Below w.heap.size w w' := by
  have HR : Hid (cmpI y z = -1) := cmp_lt (by have := HY.out; have := HZ.out; omega)
  go_enter Tryz.func45, Tryz.ntmps45
  go_wp2_with fail
  refine (H1.out _).mono ?_
  rintro e w1 ⟨rfl, hb1⟩
  have HB1 := Lib.hid hb1
  clear hb1
  go_wp2_with fail
  refine (H2.out _).mono ?_
  rintro e w2 ⟨rfl, hb2⟩
  have HB2 := Lib.hid (HB1.out.trans (hb2.mono HB1.out.size))
  clear hb2
  go_wp2_with fail
  go_ret
  exact ⟨ret_int (by rw [HR.out]), HB2.out⟩
set_option maxHeartbeats 1000000 in
theorem rcmp_false_true (a b t u : ByteArray) (y z : Int) (w : World) (_hts : t.size ≤ 4611686018427387904) (_hus : u.size ≤ 4611686018427387904)
    (H1 : Hid (∀ w, Calls Tryz.prog 83 #[.string a] w fun e w' => e = .returned (.tuple #[.string t, .bool false]) ∧ Below w.heap.size w w'))
    (H2 : Hid (∀ w, Calls Tryz.prog 83 #[.string b] w fun e w' => e = .returned (.tuple #[.string u, .bool true]) ∧ Below w.heap.size w w'))
    (_HD : Hid (∀ d ∈ bytes t, isDig d = true)) (_HH : Hid (∀ d, (bytes t).head? = some d → d ≠ 48)) (_HD' : Hid (∀ d ∈ bytes u, isDig d = true)) (_HH' : Hid (∀ d, (bytes u).head? = some d → d ≠ 48)) (_HV : Hid (y = (natOf (bytes t) : Int))) (_HV' : Hid (z = -(natOf (bytes u) : Int)))
    (HY : Hid (0 ≤ y)) (HZ : Hid (z < 0)) :
    Calls Tryz.prog 45 #[.string a, .string b] w fun e w' => e = .returned (.int .i64 (cmpI y z)) ∧ Below w.heap.size w w' := by
  have HR : Hid (cmpI y z = 1) := cmp_gt (by have := HY.out; have := HZ.out; omega)
  go_enter Tryz.func45, Tryz.ntmps45
  go_wp2_with fail
  refine (H1.out _).mono ?_
  rintro e w1 ⟨rfl, hb1⟩
  have HB1 := Lib.hid hb1
  clear hb1
  go_wp2_with fail
  refine (H2.out _).mono ?_
  rintro e w2 ⟨rfl, hb2⟩
  have HB2 := Lib.hid (HB1.out.trans (hb2.mono HB1.out.size))
  clear hb2
  go_wp2_with fail
  go_ret
  exact ⟨ret_int (by rw [HR.out]), HB2.out⟩
set_option maxHeartbeats 1000000 in
theorem rcmp_false_false (a b t u : ByteArray) (y z : Int) (w : World) (_hts : t.size ≤ 4611686018427387904) (_hus : u.size ≤ 4611686018427387904)
    (H1 : Hid (∀ w, Calls Tryz.prog 83 #[.string a] w fun e w' => e = .returned (.tuple #[.string t, .bool false]) ∧ Below w.heap.size w w'))
    (H2 : Hid (∀ w, Calls Tryz.prog 83 #[.string b] w fun e w' => e = .returned (.tuple #[.string u, .bool false]) ∧ Below w.heap.size w w'))
    (HD : Hid (∀ d ∈ bytes t, isDig d = true)) (HH : Hid (∀ d, (bytes t).head? = some d → d ≠ 48)) (HD' : Hid (∀ d ∈ bytes u, isDig d = true)) (HH' : Hid (∀ d, (bytes u).head? = some d → d ≠ 48)) (HV : Hid (y = (natOf (bytes t) : Int))) (HV' : Hid (z = (natOf (bytes u) : Int)))
    (_HY : Hid (0 ≤ y)) (_HZ : Hid (0 ≤ z)) :
    Calls Tryz.prog 45 #[.string a, .string b] w fun e w' => e = .returned (.int .i64 (cmpI y z)) ∧ Below w.heap.size w w' := by
  have HR0 : Hid ((natOf (bytes t) < natOf (bytes u) → cmpI y z = -1) ∧ (natOf (bytes u) < natOf (bytes t) → cmpI y z = 1) ∧ (natOf (bytes t) = natOf (bytes u) → cmpI y z = 0)) :=
    ⟨fun h => cmp_lt (by have h1 := HV.out; have h2 := HV'.out; omega), fun h => cmp_gt (by have h1 := HV.out; have h2 := HV'.out; omega), fun h => cmp_eq (by have h1 := HV.out; have h2 := HV'.out; omega)⟩
  by_cases hl : t.size = u.size
  · have q1 : ((t.size : Int) == (u.size : Int)) = true := by rw [hl]; simp
    have q1n : ((t.size : Int) != (u.size : Int)) = false := by rw [hl]; simp
    have HL := Lib.hid (less_S hl HD.out HD'.out)
    have HQ := Lib.hid (eq_S hl HD.out HD'.out)
    clear hl
    rcases Nat.lt_trichotomy (natOf (bytes t)) (natOf (bytes u)) with h | h | h
    · have HR := Lib.hid (HR0.out.1 h)
      have q3 : Op.bytesLess t.toList u.toList = true := HL.out.trans (decide_eq_true h)
      clear HL HQ h
      go_enter Tryz.func45, Tryz.ntmps45
      go_wp2_with fail
      refine (H1.out _).mono ?_
      rintro e w1 ⟨rfl, hb1⟩
      have HB1 := Lib.hid hb1
      clear hb1
      go_wp2_with fail
      refine (H2.out _).mono ?_
      rintro e w2 ⟨rfl, hb2⟩
      have HB2 := Lib.hid (HB1.out.trans (hb2.mono HB1.out.size))
      clear hb2
      go_wp2_with fail
      go_ret
      exact ⟨ret_int (by rw [HR.out]), HB2.out⟩
    · have HR := Lib.hid (HR0.out.2.2 h)
      have q3 : Op.bytesLess t.toList u.toList = false := HL.out.trans (decide_eq_false (by omega))
      have q4 : (t.toList == u.toList) = true := HQ.out.trans (decide_eq_true h)
      clear HL HQ h
      go_enter Tryz.func45, Tryz.ntmps45
      go_wp2_with fail
      refine (H1.out _).mono ?_
      rintro e w1 ⟨rfl, hb1⟩
      have HB1 := Lib.hid hb1
      clear hb1
      go_wp2_with fail
      refine (H2.out _).mono ?_
      rintro e w2 ⟨rfl, hb2⟩
      have HB2 := Lib.hid (HB1.out.trans (hb2.mono HB1.out.size))
      clear hb2
      go_wp2_with fail
      go_ret
      exact ⟨ret_int (by rw [HR.out]), HB2.out⟩
    · have HR := Lib.hid (HR0.out.2.1 h)
      have q3 : Op.bytesLess t.toList u.toList = false := HL.out.trans (decide_eq_false (by omega))
      have q4 : (t.toList == u.toList) = false := HQ.out.trans (decide_eq_false (by omega))
      clear HL HQ h
      go_enter Tryz.func45, Tryz.ntmps45
      go_wp2_with fail
      refine (H1.out _).mono ?_
      rintro e w1 ⟨rfl, hb1⟩
      have HB1 := Lib.hid hb1
      clear hb1
      go_wp2_with fail
      refine (H2.out _).mono ?_
      rintro e w2 ⟨rfl, hb2⟩
      have HB2 := Lib.hid (HB1.out.trans (hb2.mono HB1.out.size))
      clear hb2
      go_wp2_with fail
      go_ret
      exact ⟨ret_int (by rw [HR.out]), HB2.out⟩
  · have q1n : ((t.size : Int) != (u.size : Int)) = true := by simp; omega
    by_cases hlt : t.size < u.size
    · have q2 : decide ((t.size : Int) < (u.size : Int)) = true := decide_eq_true (by omega)
      have HR := Lib.hid (HR0.out.1 (natOf_len_lt HD.out HD'.out HH'.out (by rw [← size_bytes, ← size_bytes]; exact hlt)))
      go_enter Tryz.func45, Tryz.ntmps45
      go_wp2_with fail
      refine (H1.out _).mono ?_
      rintro e w1 ⟨rfl, hb1⟩
      have HB1 := Lib.hid hb1
      clear hb1
      go_wp2_with fail
      refine (H2.out _).mono ?_
      rintro e w2 ⟨rfl, hb2⟩
      have HB2 := Lib.hid (HB1.out.trans (hb2.mono HB1.out.size))
      clear hb2
      go_wp2_with fail
      go_ret
      exact ⟨ret_int (by rw [HR.out]), HB2.out⟩
    · have q2 : decide ((t.size : Int) < (u.size : Int)) = false := decide_eq_false (by omega)
      have HR := Lib.hid (HR0.out.2.1 (natOf_len_lt HD'.out HD.out HH.out (by rw [← size_bytes, ← size_bytes]; omega)))
      go_enter Tryz.func45, Tryz.ntmps45
      go_wp2_with fail
      refine (H1.out _).mono ?_
      rintro e w1 ⟨rfl, hb1⟩
      have HB1 := Lib.hid hb1
      clear hb1
      go_wp2_with fail
      refine (H2.out _).mono ?_
      rintro e w2 ⟨rfl, hb2⟩
      have HB2 := Lib.hid (HB1.out.trans (hb2.mono HB1.out.size))
      clear hb2
      go_wp2_with fail
      go_ret
      exact ⟨ret_int (by rw [HR.out]), HB2.out⟩
theorem rcompare_any (a b : ByteArray) (w : World) (ha : a.size ≤ 4611686018427387904) (hb : b.size ≤ 4611686018427387904) :
    Calls Tryz.prog 45 #[.string a, .string b] w fun e w' => e = .returned (.int .i64 (cmpI (valS a) (valS b))) ∧ Below w.heap.size w w' := by
  have sz : ∀ a : ByteArray, a.size ≤ 4611686018427387904 → (str (digs (bytes a))).size ≤ 4611686018427387904 := by intro a h; have := digs_len (bytes a); rw [size_str]; rw [← size_bytes] at this; omega
  have HD : ∀ a : ByteArray, ∀ d ∈ bytes (str (digs (bytes a))), isDig d = true := by intro a; rw [bytes_str]; exact digs_dig _
  have HH : ∀ a : ByteArray, ∀ d, (bytes (str (digs (bytes a)))).head? = some d → d ≠ 48 := by intro a; rw [bytes_str]; exact digs_head _
  have H1 := fun w => rdigits_any a w (by omega)
  have H2 := fun w => rdigits_any b w (by omega)
  have vt : ∀ a : ByteArray, negB (bytes a) = true → valS a = -(natOf (bytes (str (digs (bytes a)))) : Int) := by intro a h; rw [valS_eq, h, bytes_str]; rfl
  have vf : ∀ a : ByteArray, negB (bytes a) = false → valS a = (natOf (bytes (str (digs (bytes a)))) : Int) := by intro a h; rw [valS_eq, h, bytes_str]; rfl
  have nt : ∀ a : ByteArray, negB (bytes a) = true → valS a < 0 := fun a h => (val_neg _).2 h
  have nf : ∀ a : ByteArray, negB (bytes a) = false → 0 ≤ valS a := fun a h => by rw [vf a h]; omega
  cases hm : negB (bytes a) with
  | true =>
    rw [hm] at H1
    cases hn : negB (bytes b) with
    | true => rw [hn] at H2; exact rcmp_true_true a b _ _ _ _ w (sz a ha) (sz b hb) H1 H2 (HD a) (HH a) (HD b) (HH b) (vt a hm) (vt b hn) (nt a hm) (nt b hn)
    | false => rw [hn] at H2; exact rcmp_true_false a b _ _ _ _ w (sz a ha) (sz b hb) H1 H2 (HD a) (HH a) (HD b) (HH b) (vt a hm) (vf b hn) (nt a hm) (nf b hn)
  | false =>
    rw [hm] at H1
    cases hn : negB (bytes b) with
    | true => rw [hn] at H2; exact rcmp_false_true a b _ _ _ _ w (sz a ha) (sz b hb) H1 H2 (HD a) (HH a) (HD b) (HH b) (vf a hm) (vt b hn) (nf a hm) (nt b hn)
    | false => rw [hn] at H2; exact rcmp_false_false a b _ _ _ _ w (sz a ha) (sz b hb) H1 H2 (HD a) (HH a) (HD b) (HH b) (vf a hm) (vf b hn) (nf a hm) (nf b hn)
end Go.Proofs.YtahpbnmbphobgaaGreatDoor
