/- Is it a raster? The walks: the program's and the document's. Rasters turned and mirrored, and their scores, plainly. No program in sight. raster.at, made, Turn, Mirror: the walks. -/
import Derived.Test.YtecibfncnaccjaaGreatPv35
import Derived.Deep.RegionLawGrows
import Derived.Laws.MakeOwn
import Derived.Test.YtecibfncnaccjaaGreatPv4
namespace Go.Proofs.YtecibfncnaccjaaGreat
open Go.RowKit Go.Shelf

theorem any_snoc_no {p : Int → Bool} {l : List Int} {k : Nat} (hk : k < l.length) (h : (l.take k).any p = false) (hp : p (l.getD k 0) = false) : (l.take (k + 1)).any p = false := by
 rw [List.take_succ_eq_append_getElem hk, List.any_append, h, Bool.false_or, List.any_cons, List.any_nil, Bool.or_false]
 simpa [List.getD, hk] using hp
theorem any_yes {p : Int → Bool} {l : List Int} {k : Nat} (hk : k < l.length) (hp : p (l.getD k 0) = true) : l.any p = true := by
 rw [List.any_eq_true]
 exact ⟨l.getD k 0, by simp [List.getD, hk], hp⟩
def Says (P : Program) (g : Nat) (lb : Array Value) (p : Int → Bool) (w : World) : Prop := ∀ u, Keeps w u → ∀ x : Int, Calls P g (#[.int .i64 x] ++ lb) u fun e u' => e = .returned (.bool (p x)) ∧ Keeps u u'

section
variable {B : Value}
end
end Go.Proofs.YtecibfncnaccjaaGreat
namespace Go.Proofs.YtecibfncnaccjaaGreat

theorem idx_lt {W H x y : Nat} (hx : x < W) (hy : y < H) : y * W + x < W * H := by
 have h1 : (y + 1) * W ≤ H * W := Nat.mul_le_mul_right W hy
 rw [Nat.add_mul, Nat.one_mul] at h1
 rw [Nat.mul_comm W H]
 omega
end Go.Proofs.YtecibfncnaccjaaGreat
namespace Go.Proofs.YtecibfncnaccjaaGreat
open Go.RowKit Go.Shelf

theorem madeZ (n : Nat) : madeCells #[.int .i64 0] n = (i64s (List.replicate n 0)).toArray := by
 apply Array.ext
 ·simp [madeCells, i64s]
 ·intro i h1 h2
  simp [madeCells, i64s, Nat.mod_one]
theorem i64s_set (l : List Int) (k : Nat) (x : Int) : (i64s l).set k (.int .i64 x) = i64s (l.set k x) := by simp [i64s, List.map_set]
end Go.Proofs.YtecibfncnaccjaaGreat
