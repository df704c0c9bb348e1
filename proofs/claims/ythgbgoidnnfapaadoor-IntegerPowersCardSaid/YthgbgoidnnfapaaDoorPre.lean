/- A row of the call's own, in a block that may have room behind it. No program in sight. -/
import Derived.Test.YthgbgoidnnfapaaDoorMem2
import Derived.Maps.AppendAt
namespace Go.Proofs.YthgbgoidnnfapaaDoor
open Go.RowKit

/-- a block of the call's own whose first cells read as a list -/
def OwnP (w : World) (g : Nat) (t : TypeId) (us : List Nat) : Prop := ∃ cur : Array Value, w.heap[g]? = some (.cells cur t (0, 0)) ∧ cur.toList.take us.length = u32s us
theorem owns_keep {w w' : World} {base : Nat} {t : TypeId} {x : Value} {L : Nat} {xs : List Value} (h : w.ownsRow base t 1 x L xs) (hb : Keeps w w') : w'.ownsRow base t 1 x L xs := by
  refine ⟨h.1, ?_⟩
  rcases h.2 with hn | ⟨g, cap, cur, rfl, hbg, hg, rest⟩
  · exact .inl hn
  · exact .inr ⟨g, cap, cur, rfl, hbg, (hb.block g (Array.getElem?_eq_some_iff.1 hg).1).trans hg, rest⟩
section
variable {w w' : World} {g : Nat} {t : TypeId} {us : List Nat}
theorem OwnP.lt (h : OwnP w g t us) : g < w.heap.size := by
  obtain ⟨cur, h, -⟩ := h
  exact (Array.getElem?_eq_some_iff.1 h).1
theorem OwnP.cell (h : OwnP w g t us) {i : Nat} (hi : i < us.length) : w.cell? ⟨g, i, none⟩ = some (.int .u32 (ix us i : Nat)) := by
  obtain ⟨cur, h, ht⟩ := h
  rw [cell_of_row w g i cur t (0, 0) h]
  have := u32s_get us i hi
  rw [← ht, List.getElem?_take, if_pos hi] at this
  simpa [u32] using this
theorem OwnP.frozen (h : OwnP w g t us) (i : Nat) : w.frozen? ⟨g, i, none⟩ = false := by
  obtain ⟨cur, h, -⟩ := h
  simp [World.frozen?, h]
theorem OwnP.put (h : OwnP w g t us) (i x : Nat) {z : Int} (e : z = (x : Int)) : OwnP (w.setCell ⟨g, i, none⟩ (.int .u32 z)) g t (us.set i x) := by
  subst e
  obtain ⟨cur, h, ht⟩ := h
  refine ⟨cur.setIfInBounds i (.int .u32 (x : Nat)), by simp [World.setCell, Array.getElem?_modify, h], ?_⟩
  rw [Array.toList_setIfInBounds, List.length_set, ← u32s_set, ← ht, List.take_set]
theorem OwnP.row (h : OwnP w g t us) : Row w (some ⟨g, 0, none⟩) us.length (u32 us) := fun _ =>
  ⟨g, 0, rfl, h.lt, fun j hj => by rw [Nat.zero_add]; exact h.cell hj⟩
theorem OwnP.below (h : OwnP w g t us) (hb : Below w.heap.size w w') : OwnP w' g t us := by
  obtain ⟨cur, hc, ht⟩ := h
  exact ⟨cur, (hb.block g (Array.getElem?_eq_some_iff.1 hc).1).trans hc, ht⟩
theorem OwnP.drewN (h : OwnP w g t us) (n : Nat) : OwnP (w.drewN n) g t us := h
theorem OwnP.drew (h : OwnP w g t us) : OwnP w.drew g t us := h
theorem OwnP.far (h : OwnP w g t us) {p : Addr} (hp : g ≠ p.block) (u : Value) : OwnP (w.setCell p u) g t us := by
  obtain ⟨cur, hc, ht⟩ := h
  exact ⟨cur, (Below.heap_setCell w p u g hp).trans hc, ht⟩
theorem OwnP.grown {row : Option Nat} (h : OwnP w g t us) (hg : w.grownBy w' row) (hne : some g ≠ row) : OwnP w' g t us := by
  obtain ⟨cur, hc, ht⟩ := h
  exact ⟨cur, (hg.block g (Array.getElem?_eq_some_iff.1 hc).1 hne).trans hc, ht⟩
theorem OwnP.of_owns {base : Nat} {v : Value} {n : Nat} (h : w.ownsRow base t 1 v n (u32s us)) (hn : 0 < us.length) : ∃ k cap, v = .slice (some ⟨k, 0, none⟩) us.length cap ∧ base ≤ k ∧ us.length ≤ cap ∧ cap ≤ maxLen ∧ OwnP w k t us := by
  have hl : us.length = n := by have := h.1; rw [u32s_length] at this; omega
  subst hl
  rcases h.2 with ⟨rfl, h0⟩ | ⟨k, cap, cur, rfl, hb, hg, hc, hm, hs, ht⟩
  · omega
  · exact ⟨k, cap, rfl, hb, hc, hm, cur, hg, by simpa using ht⟩
theorem OwnP.u32 (h : OwnP w g t us) {c : Nat} (h1 : us.length ≤ c) (h2 : c ≤ maxLen) : U32 w (.slice (some ⟨g, 0, none⟩) us.length c) us := U32.mk h.row h1 h2 (by intro e; cases e)
end
end Go.Proofs.YthgbgoidnnfapaaDoor
