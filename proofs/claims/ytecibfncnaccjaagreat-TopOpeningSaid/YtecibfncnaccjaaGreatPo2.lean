/- Predictions and residuals: the walks of the small functions, the program's and the document's. The residuals of a raster: the walks. Is it a raster? The walks: the program's and the document's. Rasters turned and mirrored, and their scores, plainly. No program in sight. -/
import Derived.Test.YtecibfncnaccjaaGreatPo1
import Derived.Test.YtecibfncnaccjaaGreatProg
import Derived.Shelf.Abstract
import Derived.Shelf.RegionOpen
import Derived.Deep.DeepCutAuto
import Derived.Deep.LoopGhost
namespace Go.Proofs.YtecibfncnaccjaaGreat
open Go.RowKit Go.Shelf

def iv (l : List Int) (j : Nat) : Value := .int .i64 (l.getD j 0)
abbrev IRow (w : World) (A : Option Addr) (l : List Int) : Prop := Row w A l.length (iv l)
def Grey (m : Int) (l : List Int) : Prop := ∀ x ∈ l, 0 ≤ x ∧ x ≤ m
theorem Grey.get {m : Int} {l : List Int} (h : Grey m l) (hm : 0 ≤ m) (j : Nat) : 0 ≤ l.getD j 0 ∧ l.getD j 0 ≤ m := by
 rw [List.getD_eq_getElem?_getD]
 cases hj : l[j]? with
 | none => simp [hm]
 | some x => simpa using h x (List.mem_of_getElem? hj)
theorem IRow.at {w : World} {A : Option Addr} {l : List Int} (h : IRow w A l) {j : Nat} (hj : j < l.length) : ∃ b o, A = some ⟨b, o, none⟩ ∧ w.cell? ⟨b, o + j, none⟩ = some (.int .i64 (l.getD j 0)) := by
 obtain ⟨b, o, e, -, hc⟩ := h (by omega)
 exact ⟨b, o, e, hc j hj⟩
def i64s (l : List Int) : List Value := l.map fun x => .int .i64 x
theorem i64s_length (l : List Int) : (i64s l).length = l.length := by simp [i64s]
theorem info_i64 : (Tryz.prog.info? 3).map (fun i => (i.zero, i.size, i.bytes)) = some (some (.int .i64 0), 1, 8) := by kernel_rfl
abbrev IOwn (w : World) (base : Nat) (V : Value) (l : List Int) : Prop := w.ownsRow base 3 1 V l.length (i64s l)
theorem _root_.Go.World.ownsRow.irow {w : World} {base : Nat} {A : Option Addr} {n c : Nat} {l : List Int} (h : IOwn w base (.slice A n c) l) (hn : n = l.length) : IRow w A l := by
 subst hn
 have := h.cells'
 rw [Cells, i64s_length] at this
 refine this.congr fun j hj => ?_
 simp [at', i64s, iv, List.getD, hj]

theorem IRow.of_own {w : World} {base : Nat} {A : Option Addr} {n c : Nat} {l : List Int} (h : w.ownsRow base 3 1 (.slice A n c) n (i64s l)) (hn : n = l.length) : IRow w A l := by
 subst hn
 exact World.ownsRow.irow h rfl

theorem any_snoc_no {p : Int → Bool} {l : List Int} {k : Nat} (hk : k < l.length) (h : (l.take k).any p = false) (hp : p (l.getD k 0) = false) : (l.take (k + 1)).any p = false := by
 rw [List.take_succ_eq_append_getElem hk, List.any_append, h, Bool.false_or, List.any_cons, List.any_nil, Bool.or_false]
 simpa [List.getD, hk] using hp
theorem any_yes {p : Int → Bool} {l : List Int} {k : Nat} (hk : k < l.length) (hp : p (l.getD k 0) = true) : l.any p = true := by
 rw [List.any_eq_true]
 exact ⟨l.getD k 0, by simp [List.getD, hk], hp⟩
def Says (P : Program) (g : Nat) (lb : Array Value) (p : Int → Bool) (w : World) : Prop := ∀ u, Keeps w u → ∀ x : Int, Calls P g (#[.int .i64 x] ++ lb) u fun e u' => e = .returned (.bool (p x)) ∧ Keeps u u'

section
variable {B : Value}
end
end Go.Proofs.YtecibfncnaccjaaGreat
namespace Go.Proofs.YtecibfncnaccjaaGreat

theorem idx_lt {W H x y : Nat} (hx : x < W) (hy : y < H) : y * W + x < W * H := by
 have h1 : (y + 1) * W ≤ H * W := Nat.mul_le_mul_right W hy
 rw [Nat.add_mul, Nat.one_mul] at h1
 rw [Nat.mul_comm W H]
 omega
theorem idx_mod {W x y : Nat} (hx : x < W) : (y * W + x) % W = x := by
 rw [Nat.add_comm, Nat.add_mul_mod_self_right, Nat.mod_eq_of_lt hx]
theorem idx_div {W x y : Nat} (hx : x < W) : (y * W + x) / W = y := by
 rw [Nat.add_comm, Nat.add_mul_div_right _ _ (by omega), Nat.div_eq_of_lt hx, Nat.zero_add]
end Go.Proofs.YtecibfncnaccjaaGreat
