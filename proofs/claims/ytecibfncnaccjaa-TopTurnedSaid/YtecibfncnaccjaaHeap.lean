/- Blocks that a call may turn; rows of its own that grow. No program in sight. -/
import Derived.Test.YtecibfncnaccjaaMem2
import Derived.Maps.AppendAt
namespace Go.Proofs.Ytecibfncnaccjaa
open Go.RowKit

/-- nothing that lay has turned but blocks of T -/
structure Turn (T : List Nat) (w w' : World) : Prop where
  os : w'.os = w.os
  tape : w'.tape = w.tape
  output : w'.output = w.output
  size : w.heap.size ≤ w'.heap.size
  block : ∀ k, k < w.heap.size → k ∉ T → w'.heap[k]? = w.heap[k]?
/-- the block that a slice of one's own lies in -/
abbrev blkOf (v : Value) : List Nat := v.ownBlock.toList
section
variable {T T' : List Nat} {w w' w1 : World} {B : Nat}
theorem Turn.of_below (h : Below B w w') (hT : ∀ k, k < w.heap.size → B ≤ k → k ∈ T) : Turn T w w' :=
  ⟨h.os, h.tape, h.output, h.size, fun k hk hn => h.block k (Nat.lt_of_not_le fun hB => hn (hT k hk hB))⟩
theorem Turn.of_keeps (h : Keeps w w') : Turn T w w' := .of_below h fun _ h1 h2 => absurd h1 (by omega)
theorem Turn.refl (w : World) : Turn T w w := ⟨rfl, rfl, rfl, Nat.le_refl _, fun _ _ _ => rfl⟩
theorem Turn.below (h : Turn T w w') (hT : ∀ k ∈ T, B ≤ k) (hB : B ≤ w.heap.size) : Below B w w' :=
  ⟨h.os, h.tape, h.output, h.size, fun k hk => h.block k (by omega) fun hm => by have := hT k hm; omega⟩
theorem Turn.keeps (h : Turn T w w') (hT : ∀ k ∈ T, w.heap.size ≤ k) : Keeps w w' := h.below hT (Nat.le_refl _)
theorem Turn.trans (h : Turn T w w1) (h1 : Turn T' w1 w') (hT : ∀ k ∈ T', k < w.heap.size → k ∈ T) : Turn T w w' :=
  ⟨h1.os.trans h.os, h1.tape.trans h.tape, h1.output.trans h.output, Nat.le_trans h.size h1.size, fun k hk hn =>
    (h1.block k (Nat.lt_of_lt_of_le hk h.size) fun hm => hn (hT k hm hk)).trans (h.block k hk hn)⟩
theorem Turn.mono (h : Turn T w w') (hT : ∀ k ∈ T, k ∈ T') : Turn T' w w' :=
  ⟨h.os, h.tape, h.output, h.size, fun k hk hn => h.block k hk fun hm => hn (hT k hm)⟩
theorem Turn.set (h : Turn T w w') {p : Addr} (hp : p.block ∈ T) (u : Value) : Turn T w (w'.setCell p u) :=
  ⟨h.os, h.tape, h.output, by simpa [World.setCell] using h.size, fun k hk hn =>
    (Below.heap_setCell w' p u k (fun e => hn (e ▸ hp))).trans (h.block k hk hn)⟩
theorem Turn.alloc (h : Turn T w w') (o : Obj) : Turn T w (w'.alloc o) :=
  h.trans (T' := []) (Turn.of_keeps ((Below.refl _ _).alloc (Nat.le_refl _) _)) (by simp)
theorem Turn.drew (h : Turn T w w') : Turn T w w'.drew := ⟨h.os, h.tape, h.output, h.size, h.block⟩
theorem Turn.drewN (h : Turn T w w') (n : Nat) : Turn T w (w'.drewN n) := ⟨h.os, h.tape, h.output, h.size, h.block⟩
theorem Turn.of_grown {v : Value} (h : w.grownBy w' v.ownBlock) : Turn (blkOf v) w w' :=
  ⟨h.os, h.tape, h.output, h.size, fun k hk hn => h.block k hk fun e => hn (by rw [blkOf, ← e]; simp)⟩
theorem Own.turn {b : Nat} {t : TypeId} {vs : List Value} (h : Own w b t vs) (ht : Turn T w w') (hb : b ∉ T) : Own w' b t vs := (ht.block b h.lt hb).trans h
section
variable {base : Nat} {e : TypeId} {size : Nat} {v : Value} {n : Nat} {xs : List Value}
theorem _root_.Go.World.ownsRow.turn (h : w.ownsRow base e size v n xs) (ht : Turn T w w') (hv : ∀ k ∈ blkOf v, k ∉ T) : w'.ownsRow base e size v n xs := by
  obtain ⟨hl, ⟨rfl, rfl⟩ | ⟨g, cap, cur, rfl, hb, hg, hr⟩⟩ := h
  · exact ⟨hl, .inl ⟨rfl, rfl⟩⟩
  · have hlt : g < w.heap.size := (Array.getElem?_eq_some_iff.1 hg).1
    exact ⟨hl, .inr ⟨g, cap, cur, rfl, hb, (ht.block g hlt (hv g (by simp [blkOf, Value.ownBlock]))).trans hg, hr⟩⟩
theorem _root_.Go.World.ownsRow.keeps (h : w.ownsRow base e size v n xs) (hk : Keeps w w') : w'.ownsRow base e size v n xs := h.turn (Turn.of_keeps (T := []) hk) (by simp)
theorem _root_.Go.World.ownsRow.down {base' : Nat} (h : w.ownsRow base e size v n xs) (hb : base' ≤ base) : w.ownsRow base' e size v n xs := by
  obtain ⟨hl, h | ⟨g, cap, cur, rfl, hb', hr⟩⟩ := h
  · exact ⟨hl, .inl h⟩
  · exact ⟨hl, .inr ⟨g, cap, cur, rfl, Nat.le_trans hb hb', hr⟩⟩
/-- the form of a row of one's own -/
theorem _root_.Go.World.ownsRow.sl (h : w.ownsRow base e size v n xs) : ∃ A c, v = .slice A n c ∧ n ≤ c ∧ c ≤ maxLen ∧ (A = none → c = 0) := by
  obtain ⟨hl, ⟨rfl, rfl⟩ | ⟨g, cap, cur, rfl, hb, hg, h1, h2, hr⟩⟩ := h
  · exact ⟨none, 0, rfl, Nat.le_refl _, by simp [maxLen], fun _ => rfl⟩
  · exact ⟨_, cap, rfl, h1, h2, fun e => by cases e⟩
theorem _root_.Go.World.ownsRow.lo (h : w.ownsRow base e size v n xs) : ∀ k ∈ blkOf v, base ≤ k ∧ k < w.heap.size := fun k hk => by
  simp only [blkOf, Option.mem_toList] at hk
  exact h.lt k hk
end
end
/-- the j-th cell of a list, nothing behind the end -/
def at' (xs : List Value) (j : Nat) : Value := xs.getD j undef
/-- what a row of cells reads as -/
abbrev Cells (w : World) (A : Option Addr) (xs : List Value) : Prop := Row w A xs.length (at' xs)
theorem at'_get {xs : List Value} {j : Nat} {v : Value} (h : xs[j]? = some v) : at' xs j = v := by simp [at', h]
theorem Cells.get {w : World} {A : Option Addr} {xs : List Value} (h : Cells w A xs) {j : Nat} {v : Value} (hj : xs[j]? = some v) : ∃ b o, A = some ⟨b, o, none⟩ ∧ b < w.heap.size ∧ w.cell? ⟨b, o + j, none⟩ = some v := by
  have hlt := (List.getElem?_eq_some_iff.1 hj).1
  obtain ⟨b, o, e, hb, hc⟩ := h (by omega)
  exact ⟨b, o, e, hb, by rw [hc j hlt, at'_get hj]⟩
theorem _root_.Go.World.ownsRow.cells' {w : World} {base : Nat} {e : TypeId} {size : Nat} {A : Option Addr} {n c : Nat} {xs : List Value} (h : w.ownsRow base e size (.slice A n c) n xs) : Cells w A xs := fun hp => by
  obtain ⟨hl, ⟨h1, rfl⟩ | ⟨g, cap, cur, h1, hb, hg, h2, h3, h4, h5⟩⟩ := h
  · omega
  · cases h1
    refine ⟨g, 0, rfl, (Array.getElem?_eq_some_iff.1 hg).1, fun j hj => ?_⟩
    rw [cell_of_row w g (0 + j) cur _ _ hg, Nat.zero_add, at', ← h5]
    have hj2 : j < n * size := by omega
    have hj3 : j < cur.size := by rw [← h5] at hj; simp at hj; omega
    simp [List.getD, hj2, hj3]
end Go.Proofs.Ytecibfncnaccjaa
