/- A second box made anywhere in a region. No program in sight. -/
import Derived.Test.YtmochehkkadjnaaGreatDoorMgStab
namespace Go.Proofs.YtmochehkkadjnaaGreatDoor
open Go.RowKit

theorem St.box2 {w0 W w' : World} {bs : List Bx} {ps : List (World → Prop)} (S : St w0 W bs ps) {b1 : Nat} {t1 : TypeId} {v1 : List Value} (S' : St w0 w' ((b1, t1, v1) :: bs) ps) {b : Nat} {t : TypeId} {vs : List Value} (hO : Own w' b t vs) (hb : W.heap.size ≤ b) (hne : b ≠ b1) :
    St w0 w' ((b, t, vs) :: (b1, t1, v1) :: bs) ps := by
  refine ⟨S'.k, ⟨hO, S'.b⟩, ?_, ?_, S'.p⟩
  · intro p hp
    rcases List.mem_cons.1 hp with rfl | hp
    · exact Nat.le_trans S.k.size hb
    · exact S'.lo p hp
  · rw [List.pairwise_cons]
    refine ⟨fun q hq e => ?_, S'.d⟩
    rcases List.mem_cons.1 hq with rfl | hq
    · exact hne e
    · have := (S.b.mem hq).lt; simp only at e; omega
end Go.Proofs.YtmochehkkadjnaaGreatDoor
