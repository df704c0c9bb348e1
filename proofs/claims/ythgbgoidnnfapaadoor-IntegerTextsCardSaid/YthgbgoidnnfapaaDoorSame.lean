/- A store into a box of the call's own. No program in sight. -/
import Derived.Test.YthgbgoidnnfapaaDoorLawB
namespace Go.Proofs.YthgbgoidnnfapaaDoor
open Go.RowKit

/-- a store that touches no row of uint32 -/
def Same32 (w w' : World) : Prop := ∀ v xs, U32 w v xs → U32 w' v xs
theorem IntRep.map {w w' : World} {V : Value} {z : Int} (h : IntRep w V z) (hs : Same32 w w') : IntRep w' V z := by
  obtain ⟨v, rfl, hv⟩ := h
  exact ⟨v, rfl, hs _ _ hv⟩
theorem IntNum.map {w w' : World} {V : Value} {z : Int} (h : IntNum w V z) (hs : Same32 w w') : IntNum w' V z := by
  obtain ⟨neg, xs, ⟨v, rfl, hv⟩, e, l⟩ := h
  exact ⟨neg, xs, ⟨v, rfl, hs _ _ hv⟩, e, l⟩
theorem one_box {w w' : World} {t : TypeId} {d1 : Nat} {x1 y1 x4 y4 : Value} (hO1 : Own w d1 t [x1, y1]) (a1 : noU32 x1 = true) (b1 : noU32 y1 = true) (a4 : noU32 x4 = true)
    (hw : w' = (w.setCell ⟨d1, 0, none⟩ x4).setCell ⟨d1, 1, none⟩ y4) :
    Own w' d1 t [x4, y4] ∧ (∀ b vs, b ≠ d1 → Own w b t vs → Own w' b t vs) ∧ Same32 w w' ∧ (∀ w0 : World, w0.heap.size ≤ d1 → Keeps w0 w → Keeps w0 w') := by
  subst hw
  exact ⟨hO1.two x4 y4, fun b vs e1 h => h.far2 e1, fun v xs h => h.two hO1 a1 b1 a4, fun w0 e1 h => (h.set e1 _).set e1 _⟩
end Go.Proofs.YthgbgoidnnfapaaDoor
