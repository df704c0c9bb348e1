/- few: the walk. -/
import Derived.Test.YtgcigdahjabimaaGreatDoorPk48
import Derived.Test.YtgcigdahjabimaaGreatDoorPk35
namespace Go.Proofs.YtgcigdahjabimaaGreatDoor
open Go.RowKit Go.Shelf
structure SmR where
 dim : Int
 st : Int
 pt : Int
 rw_ : Int
 fr : Int
 rk : Int
 ob : RA
 sg : RA
 rd : List RA
 sx : List RA
 wo : Int
def SmR.s (r : SmR) : Sm := ⟨r.dim, r.st, r.pt, r.rw_, r.fr, r.rk, raQ r.ob, raQ r.sg, r.rd.map raQ, r.sx.map raQ, r.wo⟩
def SmRA (w : World) (V : Value) (r : SmR) : Prop := ∃ o0 o1 o2 o3 p0 p1 p2 p3 A B c d, V = .agg (smL r.s o0 o1 o2 o3 p0 p1 p2 p3 A B c d).toArray ∧ RatA w (.agg #[o0, o1, o2, o3]) r.ob ∧ RatA w (.agg #[p0, p1, p2, p3]) r.sg ∧
 Row4 RatA w A r.rd ∧ Row4 RatA w B r.sx ∧ r.rd.length ≤ maxLen ∧ r.sx.length ≤ maxLen
theorem SmRA.below {w w' : World} {V : Value} {r : SmR} (h : SmRA w V r) (hk : Keeps w w') : SmRA w' V r := by
 obtain ⟨o0, o1, o2, o3, p0, p1, p2, p3, A, B, c, d, e, h1, h2, h3, h4, h5, h6⟩ := h
 exact ⟨o0, o1, o2, o3, p0, p1, p2, p3, A, B, c, d, e, lasts_ra _ _ _ _ hk h1, lasts_ra _ _ _ _ hk h2, h3.below lasts_ra hk, h4.below lasts_ra hk, h5, h6⟩
end Go.Proofs.YtgcigdahjabimaaGreatDoor
