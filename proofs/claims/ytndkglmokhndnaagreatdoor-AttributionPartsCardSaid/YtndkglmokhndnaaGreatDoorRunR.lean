/- Unit prices, the reference: the contract of Run. Conditions: up to six days of deals with numbers of up to 20 bytes. -/
import Derived.Test.YtndkglmokhndnaaGreatDoorRunP
import Derived.Test.YtndkglmokhndnaaGreatDoorRg5
import Derived.Test.YtndkglmokhndnaaGreatDoorUpX0
namespace Go.Proofs.YtndkglmokhndnaaGreatDoor
open Go.RowKit Go.Shelf Dec QQ

theorem own_below {w w' : World} {base n size : Nat} {T : TypeId} {v : Value} {xs : List Value} (h : w.ownsRow base T size v n xs) (hb : Below w.heap.size w w') : w'.ownsRow base T size v n xs := by
  refine ⟨h.1, ?_⟩
  rcases h.2 with h | ⟨g, cap, cur, e1, e2, e3, r⟩
  · exact .inl h
  · exact .inr ⟨g, cap, cur, e1, e2, (hb.block g (Array.getElem?_eq_some_iff.1 e3).1).trans e3, r⟩
theorem own_gen {w : World} {base n size : Nat} {T : TypeId} {v : Value} {xs : List Value} (h : w.ownsRow base T size v n xs) : ∀ k, v.ownBlock = some k → base ≤ k := by
  intro k hk
  rcases h.2 with ⟨rfl, _⟩ | ⟨g, cap, cur, rfl, hb, _⟩
  · simp [Value.ownBlock] at hk
  · simp [Value.ownBlock] at hk; omega
theorem reads_row (w : World) (T : TypeId) (cs : List Value) : Reads (w.alloc (.cells cs.toArray T)) (w.heap.size + 1) cs.length (some ⟨w.heap.size, 0, none⟩) 1 cs := by
  refine ⟨by simp, fun _ => ⟨_, rfl, by simp, ?_⟩⟩
  intro j u hu
  have h := heap_new w (.cells cs.toArray T)
  rw [show (⟨w.heap.size, 0, none⟩ : Addr).add j = ⟨w.heap.size, j, none⟩ by unfold Addr.add; by_cases h : j = 0 <;> simp [h]]
  unfold World.cell?
  rw [h]
  simp [hu]
theorem reads_row1 (w : World) (o : Obj) (T : TypeId) (cs : List Value) : Reads ((w.alloc o).alloc (.cells cs.toArray T)) (w.heap.size + 1 + 1) cs.length (some ⟨w.heap.size + 1, 0, none⟩) 1 cs := by
  have := reads_row (w.alloc o) T cs
  rwa [World.size_alloc] at this
theorem rcells_one (r : DealtR) : ∀ u ∈ rcells r, u.oneCell' = true := by
  intro u hu
  simp [rcells] at hu
  rcases hu with rfl | rfl | rfl | rfl <;> rfl
theorem infoD : (Tryz.prog.info? 32).map (fun i => (i.zero, i.size, i.bytes)) = some (some (.agg #[.string ⟨#[]⟩, .string ⟨#[]⟩, .string ⟨#[]⟩, .string ⟨#[]⟩]), 4, 64) := by kernel_rfl
/-- the results in memory -/
def OutIs (base : Nat) (w : World) (v : Value) (n : Nat) (xs : List DealtR) : Prop := xs.length = n ∧ w.ownsRow base 32 4 v n (rflat xs)
theorem step_err {l : List DealIn} {k : Nat} {u : ByteArray} {d : DealIn} (h : l[k]? = some d) (hp : 0 < k → ∃ c, l[k - 1]? = some c ∧ decide (d.day ≤ c.day) = false) : stepErr l k u = (DealR u d.v d.p d.b).err := by
  unfold stepErr
  rw [h]
  show (if _ then _ else _) = _
  rw [if_neg]
  rintro ⟨h0, h1⟩
  obtain ⟨c, hc, hd⟩ := hp h0
  rw [hc] at h1
  simp only at h1
  rw [hd] at h1
  cases h1
theorem step_order {l : List DealIn} {k : Nat} {u : ByteArray} {d c : DealIn} (h : l[k]? = some d) (h0 : 0 < k) (hc : l[k - 1]? = some c) (hd : decide (d.day ≤ c.day) = true) : stepErr l k u = 8 := by
  unfold stepErr
  rw [h]
  show (if _ then _ else _) = _
  rw [if_pos ⟨h0, by rw [hc]; exact hd⟩]
end Go.Proofs.YtndkglmokhndnaaGreatDoor
