/- An argument that is an array of two integers. -/
import Derived.Test.YtmochehkkadjnaaGreatDoorMgFClose
namespace Go.Proofs.YtmochehkkadjnaaGreatDoor
open Go.RowKit Go.WideShapes Go.ChangeShapes Go.Joins

theorem arr2_of {H : Type} {enc : TypeId × Value → H} {P : Program} {W : World} {base b0 : Nat} {sp : Nat → Bool} {held : Bool} {r : Reach} {t e : TypeId} {k : IntKind} {v : Value} {d : DataW H} {p : List MemPlace}
    (ht : P.underlying t = some (.array 2 e)) (he : P.underlying e = some (.int k)) (hc : P.cellsOf e = 1) (hct : P.cellsOf t = 2) (hv : Value.okWide P W r b0 t v) (h : DataW.Trod enc P W base sp held t v d p) :
    ∃ a b, v = .agg #[.int k a, .int k b] ∧ (Lit.int k a).wf = true ∧ (Lit.int k b).wf = true := by
  have hv' : ∃ cs, v = .agg cs ∧ cs.size = P.cellsOf t := by
    simp only [Value.okWide, ht] at hv
    obtain ⟨cs, h1, h2, _⟩ := hv
    exact ⟨cs, h1, h2⟩
  obtain ⟨cs, rfl, hsz⟩ := hv'
  obtain ⟨c0, c1, rfl⟩ := array2 (hsz.trans hct)
  obtain ⟨fuel, hf⟩ := h
  have hf' : DataW.trod enc P W base sp held fuel t [c0, c1] = some (d, p) := by simpa [Value.cells] using hf
  obtain ⟨xs, m, -, -, -, hl, hi⟩ := DataW.trod_array ht hf'
  have h0 := hi 0 (by omega)
  have h1 := hi 1 (by omega)
  simp only [hc, Nat.zero_mul, Nat.one_mul, List.drop_zero, List.drop_succ_cons, List.take_succ_cons, List.take_zero] at h0 h1
  have g : ∀ (j : Nat), j < xs.length → ∃ x, xs[j]? = some x := fun j hj => ⟨_, List.getElem?_eq_getElem hj⟩
  obtain ⟨x0, e0⟩ := g 0 (by omega)
  obtain ⟨x1, e1⟩ := g 1 (by omega)
  rw [e0] at h0
  rw [e1] at h1
  obtain ⟨a, ha, -, wa⟩ := DataW.trod_int he h0
  obtain ⟨b, hb, -, wb⟩ := DataW.trod_int he h1
  cases ha; cases hb
  exact ⟨a, b, rfl, wa, wb⟩
end Go.Proofs.YtmochehkkadjnaaGreatDoor
