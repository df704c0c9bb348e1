/- Predictions and residuals: the walks of the small functions, the program's and the document's. The residuals of a raster: the walks. Where a statistic belongs among edges, plainly. No program in sight. -/
import Derived.Test.YtgcigdahjabimaaGreatDoorPk1
import Derived.Test.YtgcigdahjabimaaGreatDoorProg
import Derived.Shelf.Abstract
import Derived.Shelf.RegionOpen
import Derived.Deep.DeepCutAuto
import Derived.Deep.LoopGhost
import Derived.Test.YtgcigdahjabimaaGreatDoorPk34
namespace Go.Proofs.YtgcigdahjabimaaGreatDoor
open Go.RowKit Go.Shelf

def iv (l : List Int) (j : Nat) : Value := .int .i64 (l.getD j 0)
abbrev IRow (w : World) (A : Option Addr) (l : List Int) : Prop := Row w A l.length (iv l)
def Grey (m : Int) (l : List Int) : Prop := ∀ x ∈ l, 0 ≤ x ∧ x ≤ m
theorem Grey.get {m : Int} {l : List Int} (h : Grey m l) (hm : 0 ≤ m) (j : Nat) : 0 ≤ l.getD j 0 ∧ l.getD j 0 ≤ m := by
 rw [List.getD_eq_getElem?_getD]
 cases hj : l[j]? with
 | none => simp [hm]
 | some x => simpa using h x (List.mem_of_getElem? hj)
theorem IRow.at {w : World} {A : Option Addr} {l : List Int} (h : IRow w A l) {j : Nat} (hj : j < l.length) : ∃ b o, A = some ⟨b, o, none⟩ ∧ w.cell? ⟨b, o + j, none⟩ = some (.int .i64 (l.getD j 0)) := by
 obtain ⟨b, o, e, -, hc⟩ := h (by omega)
 exact ⟨b, o, e, hc j hj⟩
def i64s (l : List Int) : List Value := l.map fun x => .int .i64 x
theorem i64s_length (l : List Int) : (i64s l).length = l.length := by simp [i64s]
theorem i64s_snoc (l : List Int) (x : Int) : i64s (l ++ [x]) = i64s l ++ [.int .i64 x] := by simp [i64s]
theorem info_i64 : (Tryz.prog.info? 3).map (fun i => (i.zero, i.size, i.bytes)) = some (some (.int .i64 0), 1, 8) := by kernel_rfl
abbrev IOwn (w : World) (base : Nat) (V : Value) (l : List Int) : Prop := w.ownsRow base 3 1 V l.length (i64s l)
theorem _root_.Go.World.ownsRow.irow {w : World} {base : Nat} {A : Option Addr} {n c : Nat} {l : List Int} (h : IOwn w base (.slice A n c) l) (hn : n = l.length) : IRow w A l := by
 subst hn
 have := h.cells'
 rw [Cells, i64s_length] at this
 refine this.congr fun j hj => ?_
 simp [at', i64s, iv, List.getD, hj]

theorem IRow.of_own {w : World} {base : Nat} {A : Option Addr} {n c : Nat} {l : List Int} (h : w.ownsRow base 3 1 (.slice A n c) n (i64s l)) (hn : n = l.length) : IRow w A l := by
 subst hn
 exact World.ownsRow.irow h rfl

end Go.Proofs.YtgcigdahjabimaaGreatDoor
namespace Go.Proofs.YtgcigdahjabimaaGreatDoor
theorem takeW_len {α : Type} {p : α → Bool} : ∀ {l : List α} {j : Nat}, j ≤ l.length → (l.take j).all p = true → (∀ x, l[j]? = some x → p x = false) → (l.takeWhile p).length = j
 | [], j, hj, _, _ => by simp at hj; subst hj; rfl
 | a :: l, 0, _, _, h => by
  have := h a rfl
  simp [List.takeWhile, this]
 | a :: l, j + 1, hj, ha, h => by
  simp only [List.take_succ_cons, List.all_cons, Bool.and_eq_true] at ha
  have ih := takeW_len (l := l) (j := j) (by simpa using hj) ha.2 (fun x hx => h x (by simpa using hx))
  simp [List.takeWhile, ha.1, ih]
end Go.Proofs.YtgcigdahjabimaaGreatDoor
