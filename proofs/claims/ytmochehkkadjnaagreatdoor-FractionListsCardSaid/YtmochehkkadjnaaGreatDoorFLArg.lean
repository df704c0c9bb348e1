/- An argument that is a list of fractions. -/
import Derived.Test.YtmochehkkadjnaaGreatDoorMgFLst
import Derived.Test.YtmochehkkadjnaaGreatDoorMgFClose
import Derived.Deep.Slices
namespace Go.Proofs.YtmochehkkadjnaaGreatDoor
open Go.RowKit Go.WideShapes Go.ChangeShapes Go.Joins

theorem weightsAll_mem {H : Type} {P : Program} {e : TypeId} : ∀ {l : List (DataW H)} {d : DataW H}, d ∈ l → ∀ n ∈ d.weights P e, n ∈ DataW.weightsAll P e l
  | x :: r, d, hd, n, hn => by
    rw [DataW.weightsAll, List.mem_append]
    rcases List.mem_cons.1 hd with rfl | h
    · exact .inl hn
    · exact .inr (weightsAll_mem h n hn)
set_option maxRecDepth 100000 in
theorem ratsArg_of {H : Type} {enc : TypeId × Value → H} {W : World} {base b0 : Nat} {sp : Nat → Bool} {held : Bool} {r : Reach} {v : Value} {d : DataW H} {p : List MemPlace}
    (hv : Value.okWide Tryz.prog W r b0 59 v) (h : DataW.Trod enc Tryz.prog W base sp held 59 v d p) (hz : ∀ n ∈ DataW.weights Tryz.prog 59 d, n ≤ reachBytes) : ∃ l, Sl4 RatS2 W v l := by
  obtain ⟨A, len, cap, rfl⟩ := okWide_slice Tryz.underlying59 hv
  obtain ⟨fuel, hf⟩ := h
  have hf' : DataW.trod enc Tryz.prog W base sp held fuel 59 [.slice A len cap] = some (d, p) := by simpa [Value.cells] using hf
  have c4 : Tryz.prog.cellsOf 28 = 4 := by kernel_rfl
  rcases Go.Deep.open_slice Tryz.underlying59 hf' with ⟨e, -⟩ | ⟨a, len', cap', m, n, D, Pl, e, hb, hl, hm, hmm, hx, hel⟩
  · obtain ⟨rfl, rfl, rfl⟩ : A = none ∧ len = 0 ∧ cap = 0 := by simpa using e
    exact ⟨[], none, 0, rfl, Nat.le_refl _, by simp [maxLen], fun _ => rfl, fun j x hj => by simp at hj⟩
  · obtain ⟨rfl, rfl, rfl⟩ : A = some a ∧ len = len' ∧ cap = cap' := by simpa using e
    have hlm : len ≤ m := by rw [hmm]; split <;> omega
    have hd : d = .slice ((List.range len).map D) ((List.range (m - len)).map fun j => D (len + j)) := congrArg Prod.fst hx
    rw [c4] at hel
    have hsp : 0 < len → a.spot = none := fun h0 => by
      obtain ⟨cs, h1, -⟩ := hel 0 (by omega)
      obtain ⟨-, hlen, hc⟩ := World.cells?_some h1
      match cs, hlen with
      | [c0, c1, c2, c3], _ =>
        have g0 := World.cell?_spot (hc 0 (by omega))
        simpa [Addr.add] using g0
    have key : ∀ i, i < len → ∃ x : Rat × Bool, ∃ B o c0 c1 c2 c3, some a = some (⟨B, o, none⟩ : Addr) ∧ (W.cell? ⟨B, o + i * 4, none⟩ = some c0 ∧ W.cell? ⟨B, o + i * 4 + 1, none⟩ = some c1 ∧ W.cell? ⟨B, o + i * 4 + 2, none⟩ = some c2 ∧ W.cell? ⟨B, o + i * 4 + 3, none⟩ = some c3) ∧ RatS2 W (.agg #[c0, c1, c2, c3]) x := by
      intro i hi
      obtain ⟨cs, h1, h2⟩ := hel i (by omega)
      obtain ⟨-, hlen, hc⟩ := World.cells?_some h1
      match cs, hlen with
      | [c0, c1, c2, c3], _ =>
        have g0 := hc 0 (by omega)
        have g1 := hc 1 (by omega)
        have g2 := hc 2 (by omega)
        have g3 := hc 3 (by omega)
        have hs : a.spot = none := hsp (by omega)
        obtain ⟨bk, off, spot⟩ := a
        obtain rfl : spot = none := hs
        rw [add_plain, add_plain] at g0 g1 g2 g3
        obtain ⟨n1, xs, n2, ys, hA, l1, l2⟩ := ratCells_of h2 (fun n hn => hz n (by
          rw [hd]
          simp only [DataW.weights, Tryz.underlying59]
          exact List.mem_cons_of_mem _ (List.mem_append_left _ (weightsAll_mem (List.mem_map.2 ⟨i, List.mem_range.2 hi, rfl⟩) n hn))))
        exact ⟨(rcnt n1 xs n2 ys, decide (xs.length + ys.length ≤ 8)), bk, off, c0, c1, c2, c3, rfl, ⟨g0, g1, g2, g3⟩, n1, xs, n2, ys, hA, rfl, rfl, l1, l2⟩
    obtain ⟨f, hf⟩ : ∃ f : Nat → Rat × Bool, ∀ i, i < len → ∃ B o c0 c1 c2 c3, some a = some (⟨B, o, none⟩ : Addr) ∧ (W.cell? ⟨B, o + i * 4, none⟩ = some c0 ∧ W.cell? ⟨B, o + i * 4 + 1, none⟩ = some c1 ∧ W.cell? ⟨B, o + i * 4 + 2, none⟩ = some c2 ∧ W.cell? ⟨B, o + i * 4 + 3, none⟩ = some c3) ∧ RatS2 W (.agg #[c0, c1, c2, c3]) (f i) :=
      ⟨fun i => if h : i < len then Classical.choose (key i h) else (0, false), fun i hi => by simp only [dif_pos hi]; exact Classical.choose_spec (key i hi)⟩
    refine ⟨(List.range len).map f, some a, cap, by simp, by simpa using hl, hm, (by intro h; cases h), fun j x hj => ?_⟩
    rw [List.getElem?_map] at hj
    obtain ⟨i, hi, rfl⟩ := Option.map_eq_some_iff.1 hj
    obtain ⟨hlt, rfl⟩ := List.getElem?_eq_some_iff.1 hi
    rw [List.getElem_range]
    exact hf j (by simpa using hlt)
end Go.Proofs.YtmochehkkadjnaaGreatDoor
