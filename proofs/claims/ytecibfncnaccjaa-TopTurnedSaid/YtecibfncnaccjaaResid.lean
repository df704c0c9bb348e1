/- The residuals of a raster: the walks. -/
import Derived.Test.YtecibfncnaccjaaPred
namespace Go.Proofs.Ytecibfncnaccjaa
open Go.RowKit Go.Shelf

def i64s (l : List Int) : List Value := l.map fun x => .int .i64 x
theorem i64s_length (l : List Int) : (i64s l).length = l.length := by simp [i64s]
theorem i64s_snoc (l : List Int) (x : Int) : i64s (l ++ [x]) = i64s l ++ [.int .i64 x] := by simp [i64s]
theorem info_i64 : (Try.prog.info? 3).map (fun i => (i.zero, i.size, i.bytes)) = some (some (.int .i64 0), 1, 8) := by kernel_rfl
/-- a row of ints of the call's own -/
abbrev IOwn (w : World) (base : Nat) (V : Value) (l : List Int) : Prop := w.ownsRow base 3 1 V l.length (i64s l)
theorem _root_.Go.World.ownsRow.irow {w : World} {base : Nat} {A : Option Addr} {n c : Nat} {l : List Int} (h : IOwn w base (.slice A n c) l) (hn : n = l.length) : IRow w A l := by
  subst hn
  have := h.cells'
  rw [Cells, i64s_length] at this
  refine this.congr fun j hj => ?_
  simp [at', i64s, iv, List.getD, hj]

theorem IRow.of_own {w : World} {base : Nat} {A : Option Addr} {n c : Nat} {l : List Int} (h : w.ownsRow base 3 1 (.slice A n c) n (i64s l)) (hn : n = l.length) : IRow w A l := by
  subst hn
  exact World.ownsRow.irow h rfl

/-- the residual number i -/
def resAt (px : List Int) (W : Nat) (m : Int) (i : Nat) : Int := foldI ((px.getD i 0 - predI px W i + (m + 1)) % (m + 1)) (m + 1)
def resI (px : List Int) (W : Nat) (m : Int) : List Int := (List.range px.length).map (resAt px W m)
theorem resI_length (px : List Int) (W : Nat) (m : Int) : (resI px W m).length = px.length := by simp [resI]
theorem resI_grey {px : List Int} {m : Int} (hm : 0 ≤ m) (W : Nat) : Grey m (resI px W m) := fun x hx => by
  obtain ⟨i, -, rfl⟩ := List.mem_map.1 hx
  have h1 := Int.emod_nonneg (px.getD i 0 - predI px W i + (m + 1)) (show m + 1 ≠ 0 by omega)
  have h2 := Int.emod_lt_of_pos (px.getD i 0 - predI px W i + (m + 1)) (show 0 < m + 1 by omega)
  have := foldI_le h1 h2
  unfold resAt
  omega
theorem upto_succ' (f : Nat → Int) (k : Nat) : (List.range (k + 1)).map f = (List.range k).map f ++ [f k] := by rw [List.range_succ, List.map_append]; rfl

end Go.Proofs.Ytecibfncnaccjaa
