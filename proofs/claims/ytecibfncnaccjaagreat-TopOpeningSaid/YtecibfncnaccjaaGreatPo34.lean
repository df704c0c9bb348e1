/- The walk of Root. The walk of the reference's Digits. The walk of the reference's Power. The walk of the reference's Log. The walk of the reference's Root. The walk of fraction.scaled. The walks of fraction.placed, Down, Up, Near. Texts joined. No program in sight. The walk of fraction.Text. The walks of strings.Builder's copyCheck, WriteByte, WriteString: as the shelf's proofs go, at this dump (its panic branch is refused by the loader, so the shelf does not lay them). The walk of fraction.Decimal. The walk of fraction.Root. -/
import Derived.Test.YtecibfncnaccjaaGreatPo33
import Derived.Test.YtecibfncnaccjaaGreatPo18
import Derived.Test.YtecibfncnaccjaaGreatPo12
import Derived.Deep.LoopGhost
import Derived.Test.YtecibfncnaccjaaGreatPo11
import Derived.Test.YtecibfncnaccjaaGreatPo21
import Derived.Test.YtecibfncnaccjaaGreatPo15
import Derived.Test.YtecibfncnaccjaaGreatPo23
import Derived.Test.YtecibfncnaccjaaGreatPo13
import Derived.Test.YtecibfncnaccjaaGreatPo27
import Derived.Test.YtecibfncnaccjaaGreatPo28
import Derived.Test.YtecibfncnaccjaaGreatPo1
import Derived.Test.YtecibfncnaccjaaGreatPo7
import Derived.Test.YtecibfncnaccjaaGreatPo3
import Derived.Shelf.Strings.Builder1
namespace Go.Proofs.YtecibfncnaccjaaGreat
open Go.RowKit Go.Shelf

theorem IntNum.two {w : World} {V : Value} {z : Int} {R : Nat} {t : TypeId} {x y x' y' : Value} (h : IntNum w V z) (hR : Own w R t [x, y]) (hx : noU32 x = true) (hy : noU32 y = true) (hx' : noU32 x' = true) :
 IntNum ((w.setCell ⟨R, 0, none⟩ x').setCell ⟨R, 1, none⟩ y') V z := by
 obtain ⟨neg, xs, ⟨v, rfl, hv⟩, e, l⟩ := h
 exact ⟨neg, xs, ⟨v, rfl, hv.two hR hx hy hx'⟩, e, l⟩
theorem rcompare_s {w : World} {V1 V2 : Value} {x y s : Int} (h1 : IntNum w V1 x) (h2 : IntNum w V2 y) (e : (x - y).sign = s) : Calls Tryz.prog 112 #[V1, V2] w fun e w' => e = .returned (.int .i64 s) ∧ Keeps w w' := by subst e; exact rcompare_num h1 h2
def PowCut (W wx : World) (t : TypeId) (P : Int) (p : Value) : Prop := ∃ d9 bp Ap np cp, p = .pointer (some ⟨d9, 0, none⟩) ∧ W.heap.size ≤ d9 ∧ Own wx d9 t [.bool bp, .slice Ap np cp] ∧ IntRep wx (.agg #[.bool bp, .slice Ap np cp]) P ∧
 (∀ b vs, b < W.heap.size → Own W b t vs → Own wx b t vs) ∧ Same32 W wx ∧ (∀ w0 : World, w0.heap.size ≤ W.heap.size → Keeps w0 W → Keeps w0 wx)
theorem PowCut.new {W w3 : World} {t : TypeId} {P : Int} {bp : Bool} {Ap : Option Addr} {np cp : Nat} (hk : Keeps W w3) (hq : IntRep w3 (.agg #[.bool bp, .slice Ap np cp]) P) :
 PowCut W (w3.alloc (.cells #[.bool bp, .slice Ap np cp] t)) t P (.pointer (some ⟨w3.heap.size, 0, none⟩)) :=
 ⟨w3.heap.size, bp, Ap, np, cp, rfl, hk.size, Own.new w3 t [.bool bp, .slice Ap np cp], hq.below (box2 _ _), fun _ _ _ h => (h.below hk).alloc _, fun _ _ h => (h.below hk).below (box2 _ _), fun _ _ h => (h.trans' hk).trans' (box2 _ _)⟩
theorem PowCut.of {W w3 : World} {t : TypeId} {P : Int} {d9 : Nat} {bp : Bool} {Ap : Option Addr} {np cp : Nat} (hk : Keeps W w3) (hd : W.heap.size ≤ d9) (hO : Own w3 d9 t [.bool false, .slice none 0 0]) (hq : IntRep w3 (.agg #[.bool bp, .slice Ap np cp]) P) :
 PowCut W ((w3.setCell ⟨d9, 0, none⟩ (.bool bp)).setCell ⟨d9, 1, none⟩ (.slice Ap np cp)) t P (.pointer (some ⟨d9, 0, none⟩)) :=
 ⟨d9, bp, Ap, np, cp, rfl, hd, hO.two _ _, hq.two hO rfl rfl rfl, fun b vs hb h => (h.below hk).far2 (by omega), fun v xs h => (h.below hk).two hO rfl rfl rfl, fun w0 hs h => ((h.trans' hk).set (p := ⟨d9, 0, none⟩) (by simp only; omega) _).set (p := ⟨d9, 1, none⟩) (by simp only; omega) _⟩
end Go.Proofs.YtecibfncnaccjaaGreat
namespace Go.Proofs.YtecibfncnaccjaaGreat
open Go

end Go.Proofs.YtecibfncnaccjaaGreat
namespace Go.Proofs.YtecibfncnaccjaaGreat
open Go.RowKit Go.Shelf

end Go.Proofs.YtecibfncnaccjaaGreat
