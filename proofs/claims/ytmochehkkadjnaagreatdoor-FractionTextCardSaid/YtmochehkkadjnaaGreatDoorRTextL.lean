/- The text of an integer, as the reference writes it. -/
import Derived.Test.YtmochehkkadjnaaGreatDoorRText
namespace Go.Proofs.YtmochehkkadjnaaGreatDoor
open Go.RowKit Go.Shelf

theorem rtext_l {w : World} {V : Value} {z : Int} {T : List UInt8} (h : IntNum w V z) (e : textL z = T) : Calls Tryz.prog 114 #[V] w fun e w' => e = .returned (.string ⟨T.toArray⟩) ∧ Keeps w w' := by
  subst e
  obtain ⟨n, xs, h, rfl, l⟩ := h
  exact rtext_any n xs V w h l
end Go.Proofs.YtmochehkkadjnaaGreatDoor
