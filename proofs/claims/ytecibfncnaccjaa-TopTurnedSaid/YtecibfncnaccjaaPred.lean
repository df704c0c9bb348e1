/- Predictions and residuals: the walks of the small functions, the program's and the document's. -/
import Derived.Test.YtecibfncnaccjaaHeap
import Derived.Test.YtecibfncnaccjaaProg
import Derived.Shelf.Abstract
import Derived.Shelf.RegionOpen
import Derived.Deep.DeepCutAuto
import Derived.Deep.LoopGhost
namespace Go.Proofs.Ytecibfncnaccjaa
open Go.RowKit Go.Shelf

/-- the j-th of a row of ints -/
def iv (l : List Int) (j : Nat) : Value := .int .i64 (l.getD j 0)
abbrev IRow (w : World) (A : Option Addr) (l : List Int) : Prop := Row w A l.length (iv l)
/-- the rule of three neighbours -/
def midI (a b c : Int) : Int := if max a b ≤ c then min a b else if c ≤ min a b then max a b else a + b - c
def predI (px : List Int) (W i : Nat) : Int :=
  if i = 0 then 0 else if i < W then px.getD (i - 1) 0 else if i % W = 0 then px.getD (i - W) 0 else midI (px.getD (i - 1) 0) (px.getD (i - W) 0) (px.getD (i - W - 1) 0)
def foldI (r m : Int) : Int := if 2 * r ≤ m then if 0 < r then 2 * r - 1 else 0 else 2 * (m - r)
def unfI (v : Int) : Int := if v % 2 = 1 then (v + 1) / 2 else -(v / 2)
/-- all of them grey values -/
def Grey (m : Int) (l : List Int) : Prop := ∀ x ∈ l, 0 ≤ x ∧ x ≤ m
theorem Grey.get {m : Int} {l : List Int} (h : Grey m l) (hm : 0 ≤ m) (j : Nat) : 0 ≤ l.getD j 0 ∧ l.getD j 0 ≤ m := by
  rw [List.getD_eq_getElem?_getD]
  cases hj : l[j]? with
  | none => simp [hm]
  | some x => simpa using h x (List.mem_of_getElem? hj)
theorem midI_le {a b c m : Int} (ha : 0 ≤ a ∧ a ≤ m) (hb : 0 ≤ b ∧ b ≤ m) : 0 ≤ midI a b c ∧ midI a b c ≤ m := by
  unfold midI
  split
  · omega
  · split <;> omega
theorem predI_le {m : Int} {l : List Int} (h : Grey m l) (hm : 0 ≤ m) (W i : Nat) : 0 ≤ predI l W i ∧ predI l W i ≤ m := by
  unfold predI
  split
  · omega
  · split
    · exact h.get hm _
    · split
      · exact h.get hm _
      · exact midI_le (h.get hm _) (h.get hm _)
theorem foldI_le {r m : Int} (h0 : 0 ≤ r) (h1 : r < m) : 0 ≤ foldI r m ∧ foldI r m ≤ m - 1 := by
  unfold foldI
  split
  · split <;> omega
  · omega
theorem unfI_le {v m : Int} (h0 : 0 ≤ v) (h1 : v ≤ m) : -m ≤ unfI v ∧ unfI v ≤ m := by
  unfold unfI
  split <;> omega

theorem IRow.at {w : World} {A : Option Addr} {l : List Int} (h : IRow w A l) {j : Nat} (hj : j < l.length) : ∃ b o, A = some ⟨b, o, none⟩ ∧ w.cell? ⟨b, o + j, none⟩ = some (.int .i64 (l.getD j 0)) := by
  obtain ⟨b, o, e, -, hc⟩ := h (by omega)
  exact ⟨b, o, e, hc j hj⟩
end Go.Proofs.Ytecibfncnaccjaa
