/- Integer: the reference's digits. -/
import Derived.Test.YtonopbelbehheaaGreatDoorFit
namespace Go.Proofs.YtonopbelbehheaaGreatDoor
open Go.RowKit Go.Shelf Dec

theorem get_bytes (t : ByteArray) (k : Nat) (h : k < t.size) : (bytes t)[k]? = some t[k] := by
  unfold bytes
  rw [Array.getElem?_toList]
  exact Array.getElem?_eq_getElem h
theorem all_of_get {t : ByteArray} (H : ∀ (j : Nat) (h : j < t.size), j < t.size → isDig t[j] = true) : (bytes t).all isDig = true := by
  rw [List.all_eq_true]
  intro d hd
  obtain ⟨k, hk⟩ := List.getElem?_of_mem hd
  have hl : k < t.size := by rw [size_bytes]; exact (List.getElem?_eq_some_iff.1 hk).1
  rw [get_bytes t k hl] at hk
  rw [← Option.some.inj hk]
  exact H k hl hl

def RD (Q : ByteArray → Bool → Prop) (w : World) (e : Ending) (w' : World) : Prop := ∃ d n, e = .returned (.tuple #[.string d, .bool n]) ∧ Q d n ∧ Below w.heap.size w w'
theorem rd_mk {Q : ByteArray → Bool → Prop} {w : World} {d : ByteArray} {n : Bool} (h : Q d n) : RD Q w (.returned (.tuple #[.string d, .bool n])) w := ⟨d, n, rfl, h, Below.refl _ _⟩
theorem not_all {t : ByteArray} {k : Nat} (hk : k < t.size) (h : isDig t[k] = false) : (bytes t).all isDig = false := by
  rw [List.all_eq_false]
  exact ⟨t[k], List.mem_of_getElem? (get_bytes t k hk), by rw [h]; decide⟩
theorem bytes_ext (u : ByteArray) : bytes (u.extract 1 u.size) = (bytes u).drop 1 := by
  unfold bytes
  rw [ByteArray.data_extract, Array.toList_extract, List.extract_eq_take_drop]
  apply List.take_of_length_le
  rw [List.length_drop, Array.length_toList]
  exact Nat.le_refl _
theorem bytes_first (u : ByteArray) (h : 0 < u.size) : bytes u = u[0] :: bytes (u.extract 1 u.size) := by
  rw [bytes_ext]
  have := get_bytes u 0 h
  cases hb : bytes u with
  | nil => rw [hb] at this; cases this
  | cons x l => rw [hb] at this; simp at this; rw [this]; rfl
theorem size_ext (u : ByteArray) : (u.extract 1 u.size).size = u.size - 1 := by rw [size_bytes, bytes_ext, List.length_drop, ← size_bytes]
set_option maxHeartbeats 2000000 in
theorem rdigits_neg (a t : ByteArray) (w : World) (ha : a.size ≤ 9223372036854775807) (h0 : 0 < a.size) (h1 : ((a[0].toNat : Int) == 45) = true) (ht : a.extract 1 a.size = t) (hts : t.size ≤ 9223372036854775807) (Q : ByteArray → Bool → Prop)
    (hall : (bytes t).all isDig = true → Q (str ((bytes t).dropWhile (· == 48))) (!((bytes t).dropWhile (· == 48)).isEmpty)) (hno : (bytes t).all isDig = false → Q ⟨#[]⟩ false) :
    Calls Tryz.prog 82 #[.string a] w (RD Q w) := by
  have h2 : (0 : Int) < a.size := by omega
  have Hno := Lib.hid hno
  clear hno
  go_enter Tryz.func82, Tryz.ntmps82
  go_wp2
  clear ht
  have Hall := Lib.hid (fun h => hall h)
  clear hall
  go_loop [6] (fun s => ∃ k : Nat, k ≤ t.size ∧ s = .int .i64 k ∧ Hid (∀ (j : Nat) (h : j < t.size), j < k → isDig t[j] = true)) (fun s => t.size - (intOf s).toNat)
  case atStart => exact ⟨0, by omega, rfl, fun j _ h => by omega⟩
  case round =>
    obtain ⟨k, hk, rfl, H⟩ := hrel
    by_cases hkt : k = t.size
    · subst hkt
      have HH : Hid ((bytes t).all isDig = true) := all_of_get H.out
      clear H
      have q0 : decide ((t.size : Int) < (t.size : Int)) = false := decide_eq_false (by omega)
      go_wp2
      go_loop [4] (fun s => ∃ u : ByteArray, u.size ≤ t.size ∧ s = .string u ∧ Hid ((bytes u).dropWhile (· == 48) = (bytes t).dropWhile (· == 48))) (fun s => match s with | .string u => u.size | _ => 0)
      case atStart => exact ⟨t, by omega, rfl, rfl⟩
      case round =>
        obtain ⟨u, hu, rfl, HU⟩ := hrel
        by_cases hu0 : u.size = 0
        · have q5 : decide ((0 : Int) < (u.size : Int)) = false := decide_eq_false (by omega)
          go_wp2
          go_ret2
          refine rd_mk (d := u) (n := false) ?_
          have e1 : bytes u = [] := by rw [← List.length_eq_zero_iff, ← size_bytes]; exact hu0
          have e2 := Hall.out HH.out
          rw [← HU.out, e1] at e2
          have e3 : u = str [] := by rw [← e1, str_bytes]
          rw [e3]
          exact e2
        · have hul : 0 < u.size := by omega
          have q5 : decide ((0 : Int) < (u.size : Int)) = true := decide_eq_true (by omega)
          have HB := Lib.hid (bytes_first u hul)
          have hsz := size_ext u
          by_cases h48 : ((u[0].toNat : Int) == 48) = true
          · generalize hx : u.extract 1 u.size = x at *
            go_wp2
            go_round
            case rel =>
              refine ⟨x, by omega, rfl, ?_⟩
              show _ = _
              rw [← HU.out, HB.out, List.dropWhile_cons_of_pos]
              have h := eq_of_beq h48
              have : u[0].toNat = 48 := by omega
              simp [← UInt8.toNat_inj, this]
            case measure => simp; omega
          · have h49 : ((u[0].toNat : Int) == 48) = false := by simpa using h48
            go_wp2
            go_ret2
            refine rd_mk (d := u) (n := true) ?_
            have e2 := Hall.out HH.out
            have hn : ¬ (u[0] == 48) = true := fun e => h48 (by rw [show u[0] = 48 from eq_of_beq e]; rfl)
            rw [← HU.out, HB.out, List.dropWhile_cons_of_neg (p := (· == 48)) hn, ← HB.out, str_bytes] at e2
            have e4 : (bytes u).isEmpty = false := by rw [HB.out]; rfl
            rw [e4] at e2
            exact e2
    · have hkl : k < t.size := by omega
      have q0 : decide ((k : Int) < (t.size : Int)) = true := decide_eq_true (by omega)
      by_cases hlo : (t[k].toNat : Int) < 48
      · have q1 := decide_eq_true hlo
        go_wp2
        go_ret2
        refine rd_mk (d := ⟨#[]⟩) (n := false) (Hno.out (not_all hkl ?_))
        unfold isDig
        exact decide_eq_false (by omega)
      · have q1 := decide_eq_false hlo
        by_cases hhi : (57 : Int) < (t[k].toNat : Int)
        · have q2 := decide_eq_true hhi
          go_wp2
          go_ret2
          refine rd_mk (d := ⟨#[]⟩) (n := false) (Hno.out (not_all hkl ?_))
          unfold isDig
          exact decide_eq_false (by omega)
        · have q2 := decide_eq_false hhi
          go_wp2
          go_round
          case rel =>
            refine ⟨k + 1, by omega, by simp, ?_⟩
            intro j hj hjk
            by_cases e : j = k
            · subst e; unfold isDig; exact decide_eq_true (by omega)
            · exact H.out j hj (by omega)
          case measure => simp [intOf]; omega

set_option maxHeartbeats 2000000 in
theorem rdigits_pos (a : ByteArray) (w : World) (ha : a.size ≤ 9223372036854775807) (h0 : 0 < a.size) (h1 : ((a[0].toNat : Int) == 45) = false) (Q : ByteArray → Bool → Prop)
    (hall : (bytes a).all isDig = true → Q (str ((bytes a).dropWhile (· == 48))) false) (hno : (bytes a).all isDig = false → Q ⟨#[]⟩ false) :
    Calls Tryz.prog 82 #[.string a] w (RD Q w) := by
  have h2 : (0 : Int) < a.size := by omega
  have Hno := Lib.hid hno
  clear hno
  go_enter Tryz.func82, Tryz.ntmps82
  go_wp2
  have Hall := Lib.hid (fun h => hall h)
  clear hall
  go_loop [6] (fun s => ∃ k : Nat, k ≤ a.size ∧ s = .int .i64 k ∧ Hid (∀ (j : Nat) (h : j < a.size), j < k → isDig a[j] = true)) (fun s => a.size - (intOf s).toNat)
  case atStart => exact ⟨0, by omega, rfl, fun j _ h => by omega⟩
  case round =>
    obtain ⟨k, hk, rfl, H⟩ := hrel
    by_cases hkt : k = a.size
    · subst hkt
      have HH : Hid ((bytes a).all isDig = true) := all_of_get H.out
      clear H
      have q0 : decide ((a.size : Int) < (a.size : Int)) = false := decide_eq_false (by omega)
      go_wp2
      go_loop [4] (fun s => ∃ u : ByteArray, u.size ≤ a.size ∧ s = .string u ∧ Hid ((bytes u).dropWhile (· == 48) = (bytes a).dropWhile (· == 48))) (fun s => match s with | .string u => u.size | _ => 0)
      case atStart => exact ⟨a, by omega, rfl, rfl⟩
      case round =>
        obtain ⟨u, hu, rfl, HU⟩ := hrel
        by_cases hu0 : u.size = 0
        · have q5 : decide ((0 : Int) < (u.size : Int)) = false := decide_eq_false (by omega)
          go_wp2
          go_ret2
          refine rd_mk (d := u) (n := false) ?_
          have e1 : bytes u = [] := by rw [← List.length_eq_zero_iff, ← size_bytes]; exact hu0
          have e2 := Hall.out HH.out
          rw [← HU.out, e1] at e2
          have e3 : u = str [] := by rw [← e1, str_bytes]
          rw [e3]
          exact e2
        · have hul : 0 < u.size := by omega
          have q5 : decide ((0 : Int) < (u.size : Int)) = true := decide_eq_true (by omega)
          have HB := Lib.hid (bytes_first u hul)
          have hsz := size_ext u
          by_cases h48 : ((u[0].toNat : Int) == 48) = true
          · generalize hx : u.extract 1 u.size = x at *
            go_wp2
            go_round
            case rel =>
              refine ⟨x, by omega, rfl, ?_⟩
              show _ = _
              rw [← HU.out, HB.out, List.dropWhile_cons_of_pos]
              have h := eq_of_beq h48
              have : u[0].toNat = 48 := by omega
              simp [← UInt8.toNat_inj, this]
            case measure => simp; omega
          · have h49 : ((u[0].toNat : Int) == 48) = false := by simpa using h48
            go_wp2
            go_ret2
            refine rd_mk (d := u) (n := false) ?_
            have e2 := Hall.out HH.out
            have hn : ¬ (u[0] == 48) = true := fun e => h48 (by rw [show u[0] = 48 from eq_of_beq e]; rfl)
            rw [← HU.out, HB.out, List.dropWhile_cons_of_neg (p := (· == 48)) hn, ← HB.out, str_bytes] at e2
            exact e2
    · have hkl : k < a.size := by omega
      have q0 : decide ((k : Int) < (a.size : Int)) = true := decide_eq_true (by omega)
      by_cases hlo : (a[k].toNat : Int) < 48
      · have q1 := decide_eq_true hlo
        go_wp2
        go_ret2
        refine rd_mk (d := ⟨#[]⟩) (n := false) (Hno.out (not_all hkl ?_))
        unfold isDig
        exact decide_eq_false (by omega)
      · have q1 := decide_eq_false hlo
        by_cases hhi : (57 : Int) < (a[k].toNat : Int)
        · have q2 := decide_eq_true hhi
          go_wp2
          go_ret2
          refine rd_mk (d := ⟨#[]⟩) (n := false) (Hno.out (not_all hkl ?_))
          unfold isDig
          exact decide_eq_false (by omega)
        · have q2 := decide_eq_false hhi
          go_wp2
          go_round
          case rel =>
            refine ⟨k + 1, by omega, by simp, ?_⟩
            intro j hj hjk
            by_cases e : j = k
            · subst e; unfold isDig; exact decide_eq_true (by omega)
            · exact H.out j hj (by omega)
          case measure => simp [intOf]; omega

set_option maxHeartbeats 2000000 in
theorem rdigits_nil (a : ByteArray) (w : World) (ha : a.size ≤ 9223372036854775807) (h0 : ¬ (0 : Int) < a.size) (Q : ByteArray → Bool → Prop)
    (hall : (bytes a).all isDig = true → Q (str ((bytes a).dropWhile (· == 48))) false) (hno : (bytes a).all isDig = false → Q ⟨#[]⟩ false) :
    Calls Tryz.prog 82 #[.string a] w (RD Q w) := by
  have Hno := Lib.hid hno
  clear hno
  go_enter Tryz.func82, Tryz.ntmps82
  go_wp2
  have Hall := Lib.hid (fun h => hall h)
  clear hall
  go_loop [6] (fun s => ∃ k : Nat, k ≤ a.size ∧ s = .int .i64 k ∧ Hid (∀ (j : Nat) (h : j < a.size), j < k → isDig a[j] = true)) (fun s => a.size - (intOf s).toNat)
  case atStart => exact ⟨0, by omega, rfl, fun j _ h => by omega⟩
  case round =>
    obtain ⟨k, hk, rfl, H⟩ := hrel
    by_cases hkt : k = a.size
    · subst hkt
      have HH : Hid ((bytes a).all isDig = true) := all_of_get H.out
      clear H
      have q0 : decide ((a.size : Int) < (a.size : Int)) = false := decide_eq_false (by omega)
      go_wp2
      go_loop [4] (fun s => ∃ u : ByteArray, u.size ≤ a.size ∧ s = .string u ∧ Hid ((bytes u).dropWhile (· == 48) = (bytes a).dropWhile (· == 48))) (fun s => match s with | .string u => u.size | _ => 0)
      case atStart => exact ⟨a, by omega, rfl, rfl⟩
      case round =>
        obtain ⟨u, hu, rfl, HU⟩ := hrel
        by_cases hu0 : u.size = 0
        · have q5 : decide ((0 : Int) < (u.size : Int)) = false := decide_eq_false (by omega)
          go_wp2
          go_ret2
          refine rd_mk (d := u) (n := false) ?_
          have e1 : bytes u = [] := by rw [← List.length_eq_zero_iff, ← size_bytes]; exact hu0
          have e2 := Hall.out HH.out
          rw [← HU.out, e1] at e2
          have e3 : u = str [] := by rw [← e1, str_bytes]
          rw [e3]
          exact e2
        · have hul : 0 < u.size := by omega
          have q5 : decide ((0 : Int) < (u.size : Int)) = true := decide_eq_true (by omega)
          have HB := Lib.hid (bytes_first u hul)
          have hsz := size_ext u
          by_cases h48 : ((u[0].toNat : Int) == 48) = true
          · generalize hx : u.extract 1 u.size = x at *
            go_wp2
            go_round
            case rel =>
              refine ⟨x, by omega, rfl, ?_⟩
              show _ = _
              rw [← HU.out, HB.out, List.dropWhile_cons_of_pos]
              have h := eq_of_beq h48
              have : u[0].toNat = 48 := by omega
              simp [← UInt8.toNat_inj, this]
            case measure => simp; omega
          · have h49 : ((u[0].toNat : Int) == 48) = false := by simpa using h48
            go_wp2
            go_ret2
            refine rd_mk (d := u) (n := false) ?_
            have e2 := Hall.out HH.out
            have hn : ¬ (u[0] == 48) = true := fun e => h48 (by rw [show u[0] = 48 from eq_of_beq e]; rfl)
            rw [← HU.out, HB.out, List.dropWhile_cons_of_neg (p := (· == 48)) hn, ← HB.out, str_bytes] at e2
            exact e2
    · have hkl : k < a.size := by omega
      have q0 : decide ((k : Int) < (a.size : Int)) = true := decide_eq_true (by omega)
      by_cases hlo : (a[k].toNat : Int) < 48
      · have q1 := decide_eq_true hlo
        go_wp2
        go_ret2
        refine rd_mk (d := ⟨#[]⟩) (n := false) (Hno.out (not_all hkl ?_))
        unfold isDig
        exact decide_eq_false (by omega)
      · have q1 := decide_eq_false hlo
        by_cases hhi : (57 : Int) < (a[k].toNat : Int)
        · have q2 := decide_eq_true hhi
          go_wp2
          go_ret2
          refine rd_mk (d := ⟨#[]⟩) (n := false) (Hno.out (not_all hkl ?_))
          unfold isDig
          exact decide_eq_false (by omega)
        · have q2 := decide_eq_false hhi
          go_wp2
          go_round
          case rel =>
            refine ⟨k + 1, by omega, by simp, ?_⟩
            intro j hj hjk
            by_cases e : j = k
            · subst e; unfold isDig; exact decide_eq_true (by omega)
            · exact H.out j hj (by omega)
          case measure => simp [intOf]; omega
end Go.Proofs.YtonopbelbehheaaGreatDoor
