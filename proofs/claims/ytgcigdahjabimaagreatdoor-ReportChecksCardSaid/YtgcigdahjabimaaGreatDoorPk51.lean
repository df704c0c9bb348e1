/- slices.Grow and slices.Concat of rows of fractions: the walks. formed's test of one fraction: the walks. -/
import Derived.Test.YtgcigdahjabimaaGreatDoorPk34
import Derived.Test.YtgcigdahjabimaaGreatDoorPk1
import Derived.Lib.AppendZeros
import Derived.Test.YtgcigdahjabimaaGreatDoorPk44
namespace Go.Proofs.YtgcigdahjabimaaGreatDoor
open Go.RowKit Go.Shelf
def ElV (w : World) (xs : List Value) (qs : List QV) : Prop :=
 xs.length = qs.length * 4 ∧ (∀ u ∈ xs, u.oneCell' = true) ∧ ∀ j q, qs[j]? = some q → ∃ c0 c1 c2 c3, xs[j * 4]? = some c0 ∧ xs[j * 4 + 1]? = some c1 ∧ xs[j * 4 + 2]? = some c2 ∧ xs[j * 4 + 3]? = some c3 ∧ RatV2 w (.agg #[c0, c1, c2, c3]) q
theorem ElV.nil {w : World} : ElV w [] [] := ⟨rfl, by simp, fun j q h => by simp at h⟩
theorem ElV.keep {w w' : World} {xs : List Value} {qs : List QV} (h : ElV w xs qs) (hk : Keeps w w') : ElV w' xs qs :=
 ⟨h.1, h.2.1, fun j q hj => by obtain ⟨c0, c1, c2, c3, e0, e1, e2, e3, hr⟩ := h.2.2 j q hj; exact ⟨c0, c1, c2, c3, e0, e1, e2, e3, lasts_v _ _ _ _ hk hr⟩⟩
theorem ElV.append {w : World} {xs ys : List Value} {qs rs : List QV} (h : ElV w xs qs) (g : ElV w ys rs) : ElV w (xs ++ ys) (qs ++ rs) := by
 have h1 := h.1
 refine ⟨by rw [List.length_append, List.length_append, h.1, g.1, Nat.add_mul], fun u hu => ?_, fun j p hj => ?_⟩
 ·rcases List.mem_append.1 hu with hu | hu
  ·exact h.2.1 u hu
  ·exact g.2.1 u hu
 ·by_cases hlt : j < qs.length
  ·rw [List.getElem?_append_left hlt] at hj
   obtain ⟨c0, c1, c2, c3, e0, e1, e2, e3, hr⟩ := h.2.2 j p hj
   exact ⟨c0, c1, c2, c3, by rw [List.getElem?_append_left (by omega)]; exact e0, by rw [List.getElem?_append_left (by omega)]; exact e1, by rw [List.getElem?_append_left (by omega)]; exact e2, by rw [List.getElem?_append_left (by omega)]; exact e3, hr⟩
  ·rw [List.getElem?_append_right (by omega)] at hj
   obtain ⟨c0, c1, c2, c3, e0, e1, e2, e3, hr⟩ := g.2.2 _ p hj
   refine ⟨c0, c1, c2, c3, ?_, ?_, ?_, ?_, hr⟩
   ·rw [List.getElem?_append_right (by omega), ← e0]; congr 1; omega
   ·rw [List.getElem?_append_right (by omega), ← e1]; congr 1; omega
   ·rw [List.getElem?_append_right (by omega), ← e2]; congr 1; omega
   ·rw [List.getElem?_append_right (by omega), ← e3]; congr 1; omega
def RowsQ (w : World) (b : Nat) (rows : List (List QV)) : Prop :=
 ∀ j l, rows[j]? = some l → ∃ A c, w.cell? ⟨b, j, none⟩ = some (.slice A l.length c) ∧ Row4 RatV2 w A l ∧ (A = none → c = 0)
theorem RowsQ.below {w w' : World} {b : Nat} {rows : List (List QV)} (h : RowsQ w b rows) (hb : b < w.heap.size) (hk : Keeps w w') : RowsQ w' b rows := fun j xs hj => by
 obtain ⟨A, c, h1, h2, h3⟩ := h j xs hj
 exact ⟨A, c, (hk.cell (p := ⟨b, j, none⟩) hb).trans h1, h2.below lasts_v hk, h3⟩
end Go.Proofs.YtgcigdahjabimaaGreatDoor
