/- An argument of the type []int, opened. -/
import Derived.Test.YtomjnjpehokjbaaGreatDoorCClose
import Derived.Test.YtomjnjpehokjbaaGreatDoorMgOf
namespace Go.Proofs.YtomjnjpehokjbaaGreatDoor
open Go.RowKit Go.WideShapes Go.ChangeShapes Go.Joins
section
variable {H : Type} {enc : TypeId × Value → H} {W : World} {base b0 : Nat} {sp : Nat → Bool} {held : Bool} {m : Nat} {r : Reach} {v : Value} {d : DataW H} {p : List MemPlace}
set_option maxRecDepth 100000 in
/-- the cell of a []int -/
theorem intsCells_of {v0 : Value} {y : DataW H × List MemPlace} (h : DataW.trod enc Tryz.prog W base sp held m 36 [v0] = some y) :
    ∃ A c px, v0 = .slice A (List.length px) c ∧ IRow W A px ∧ List.length px ≤ maxLen ∧ ∀ x ∈ px, -9223372036854775808 ≤ x ∧ x ≤ 9223372036854775807 := by
  rcases open_ints Tryz.underlying36 Tryz.underlying3 (by kernel_rfl) h with ⟨e, -⟩ | ⟨a, len, cap, zs, e, hb, hl, hm, hz, ey, hc, hw⟩
  · obtain rfl : v0 = .slice none 0 0 := by simpa using e
    exact ⟨none, 0, [], rfl, Row.zero, by simp, by simp⟩
  · obtain rfl : v0 = .slice (some a) len cap := by simpa using e
    have hlz : len ≤ zs.length := by rw [hz]; split <;> omega
    have hlen : (zs.take len).length = len := by simp; omega
    refine ⟨some a, cap, zs.take len, by rw [hlen], fun hp => ?_, by rw [hlen]; omega, fun x hx => i64_of_wf (hw x (List.mem_of_mem_take hx))⟩
    rw [hlen] at hp
    have c0 := hc 0 (by omega)
    have hs : a.spot = none := by
      have := World.cell?_spot c0
      simpa [Addr.add] using this
    obtain ⟨bk, off, spot⟩ := a
    obtain rfl : spot = none := hs
    refine ⟨bk, off, rfl, ?_, fun j hj => ?_⟩
    · rcases Nat.lt_or_ge bk W.heap.size with h | h
      · exact h
      · simp [World.cell?, Addr.add, Array.getElem?_eq_none h] at c0
    · rw [hlen] at hj
      have := hc j (by omega)
      rw [show (⟨bk, off, none⟩ : Addr).add j = ⟨bk, off + j, none⟩ by unfold Addr.add; split <;> simp_all] at this
      rw [this]
      simp [iv, List.getD, hj]
set_option maxRecDepth 100000 in
theorem intsArg_of (hv : Value.okWide Tryz.prog W r b0 36 v) (h : DataW.Trod enc Tryz.prog W base sp held 36 v d p) :
    ∃ A c px, v = .slice A (List.length px) c ∧ IRow W A px ∧ List.length px ≤ maxLen ∧ ∀ x ∈ px, -9223372036854775808 ≤ x ∧ x ≤ 9223372036854775807 := by
  obtain ⟨A, len, cap, rfl⟩ := okWide_slice Tryz.underlying36 hv
  obtain ⟨fuel, hf⟩ := h
  exact intsCells_of (y := (d, p)) (by simpa [Value.cells] using hf)
end
end Go.Proofs.YtomjnjpehokjbaaGreatDoor
