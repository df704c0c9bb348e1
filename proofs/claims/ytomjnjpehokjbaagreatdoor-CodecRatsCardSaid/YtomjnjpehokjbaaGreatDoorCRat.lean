/- An argument of the type api.Rat, opened. -/
import Derived.Test.YtomjnjpehokjbaaGreatDoorCClose
import Derived.Test.YtomjnjpehokjbaaGreatDoorMgRatNum
namespace Go.Proofs.YtomjnjpehokjbaaGreatDoor
open Go.RowKit Go.WideShapes Go.ChangeShapes Go.Joins
set_option maxRecDepth 100000 in
/-- the two cells of an api.Int -/
theorem intCells_of {H : Type} {enc : TypeId × Value → H} {W : World} {base : Nat} {sp : Nat → Bool} {held : Bool} {v0 v1 : Value} {m : Nat} {y : DataW H × List MemPlace}
    (h : DataW.trod enc Tryz.prog W base sp held m 27 [v0, v1] = some y) (hz : ∀ n ∈ DataW.weights Tryz.prog 27 y.1, n ≤ reachBytes) : ∃ neg xs, IntArg W (.agg #[v0, v1]) neg xs ∧ xs.length ≤ 35184372088832 := by
  obtain ⟨y0, y1, n, rfl, -, h0, h1⟩ := trod_struct2 Tryz.underlying27 h
  have c0 : Tryz.prog.cellsOf 4 = 1 := by kernel_rfl
  have c1 : Tryz.prog.cellsOf 25 = 1 := by kernel_rfl
  have c2 : Tryz.prog.bytesOf 51 = 4 := by kernel_rfl
  simp only [c0, c1, List.drop_zero, List.drop_succ_cons, List.take_succ_cons, List.take_zero] at h0 h1
  have hz1 : ∀ n ∈ DataW.weights Tryz.prog 25 y1.1, n ≤ reachBytes := fun n hn => hz n (by
    simp only [DataW.weights, Tryz.underlying27, List.map_cons, List.map_nil, DataW.weightsEach, List.mem_append]
    exact Or.inr (Or.inl hn))
  clear hz
  obtain ⟨neg, e, -⟩ := DataW.trod_bool Tryz.underlying4 h0
  obtain rfl : v0 = .bool neg := by simpa using e
  rcases open_ints Tryz.underlying25 Tryz.underlying51 (by kernel_rfl) h1 with ⟨e, -⟩ | ⟨a, len, cap, zs, e, hb, hl, hm, hz, ey, hc, hw⟩
  · obtain rfl : v1 = .slice none 0 0 := by simpa using e
    exact ⟨neg, [], ⟨_, rfl, U32.nil⟩, by simp⟩
  · obtain rfl : v1 = .slice (some a) len cap := by simpa using e
    have hlz : len ≤ zs.length := by rw [hz]; split <;> omega
    have hxl : ((zs.take len).map Int.toNat).length = len := by simp; omega
    have hnn : ∀ j, j < len → zs.getD j 0 = ((((zs.take len).map Int.toNat).getD j 0 : Nat) : Int) := fun j hj => by
      have hm : zs.getD j 0 ∈ zs := by
        have : zs.getD j 0 = zs[j]'(by omega) := by simp [List.getD, show j < zs.length by omega]
        rw [this]
        exact List.getElem_mem _
      have := hw _ hm
      simp only [Lit.wf, Bool.and_eq_true, decide_eq_true_eq] at this
      have h0 : 0 ≤ zs.getD j 0 := this.1
      have e : ((zs.take len).map Int.toNat).getD j 0 = (zs.getD j 0).toNat := by
        simp [List.getD, hj, show j < zs.length by omega]
      rw [e]
      omega
    have hsz : len ≤ 35184372088832 := by
      have := hz1 ((lits .u32 (zs.take len) : List (DataW H)).length * 4 + (lits .u32 (zs.drop len) : List (DataW H)).length * 4) (by
        rw [ey]
        simp only [DataW.weights, Tryz.underlying25, c2]
        rw [Nat.add_mul]
        exact List.mem_cons_self)
      have hl1 : (lits .u32 (zs.take len) : List (DataW H)).length = len := by simp [lits]; omega
      rw [hl1] at this
      unfold reachBytes at this
      omega
    refine ⟨neg, (zs.take len).map Int.toNat, ⟨_, rfl, some a, cap, by rw [hxl], by omega, hm, by simp, ?_⟩, by rw [hxl]; exact hsz⟩
    rw [hxl]
    intro hp
    have c0 := hc 0 (by omega)
    have hs : a.spot = none := by
      have := World.cell?_spot c0
      simpa [Addr.add] using this
    obtain ⟨bk, off, spot⟩ := a
    obtain rfl : spot = none := hs
    refine ⟨bk, off, rfl, ?_, fun j hj => ?_⟩
    · rcases Nat.lt_or_ge bk W.heap.size with h | h
      · exact h
      · simp [World.cell?, Addr.add, Array.getElem?_eq_none h] at c0
    · have := hc j (by omega)
      rw [add_plain, hnn j hj] at this
      exact this
set_option maxRecDepth 100000 in
theorem intArg_of {H : Type} {enc : TypeId × Value → H} {W : World} {base b0 : Nat} {sp : Nat → Bool} {held : Bool} {r : Reach} {v : Value} {d : DataW H} {p : List MemPlace}
    (hv : Value.okWide Tryz.prog W r b0 27 v) (h : DataW.Trod enc Tryz.prog W base sp held 27 v d p) (hz : ∀ n ∈ DataW.weights Tryz.prog 27 d, n ≤ reachBytes) : ∃ neg xs, IntArg W v neg xs ∧ xs.length ≤ 35184372088832 := by
  obtain ⟨cs, rfl, hsz⟩ := okWide_struct Tryz.underlying27 hv
  obtain ⟨c0, c1, rfl⟩ := array2 (hsz.trans (by kernel_rfl))
  obtain ⟨fuel, hf⟩ := h
  exact intCells_of (y := (d, p)) (by simpa [Value.cells] using hf) hz
set_option maxRecDepth 100000 in
/-- the four cells of an api.Rat -/
theorem ratCells_of {H : Type} {enc : TypeId × Value → H} {W : World} {base : Nat} {sp : Nat → Bool} {held : Bool} {c0 c1 c2 c3 : Value} {m : Nat} {y : DataW H × List MemPlace}
    (h : DataW.trod enc Tryz.prog W base sp held m 44 [c0, c1, c2, c3] = some y) (hz : ∀ n ∈ DataW.weights Tryz.prog 44 y.1, n ≤ reachBytes) :
    ∃ n1 xs n2 ys, RatArg W (.agg #[c0, c1, c2, c3]) n1 xs n2 ys ∧ xs.length ≤ 35184372088832 ∧ ys.length ≤ 35184372088832 := by
  obtain ⟨y0, y1, n, rfl, -, h0, h1⟩ := trod_struct2 Tryz.underlying44 h
  have cc : Tryz.prog.cellsOf 27 = 2 := by kernel_rfl
  simp only [cc, List.drop_zero, List.drop_succ_cons, List.take_succ_cons, List.take_zero] at h0 h1
  have hz' : ∀ n, n ∈ DataW.weights Tryz.prog 27 y0.1 ∨ n ∈ DataW.weights Tryz.prog 27 y1.1 → n ≤ reachBytes := fun n hn => hz n (by
    simp only [DataW.weights, Tryz.underlying44, List.map_cons, List.map_nil, DataW.weightsEach, List.mem_append]
    rcases hn with hn | hn
    · exact Or.inl hn
    · exact Or.inr (Or.inl hn))
  obtain ⟨n1, xs, i1, l1⟩ := intCells_of h0 fun n hn => hz' n (.inl hn)
  obtain ⟨n2, ys, i2, l2⟩ := intCells_of h1 fun n hn => hz' n (.inr hn)
  exact ⟨n1, xs, n2, ys, ⟨_, _, _, _, rfl, i1, i2⟩, l1, l2⟩
set_option maxRecDepth 100000 in
/-- an argument of the type api.Rat -/
theorem ratArg_of {H : Type} {enc : TypeId × Value → H} {W : World} {base b0 : Nat} {sp : Nat → Bool} {held : Bool} {r : Reach} {v : Value} {d : DataW H} {p : List MemPlace}
    (hv : Value.okWide Tryz.prog W r b0 44 v) (h : DataW.Trod enc Tryz.prog W base sp held 44 v d p) (hz : ∀ n ∈ DataW.weights Tryz.prog 44 d, n ≤ reachBytes) :
    ∃ n1 xs n2 ys, RatArg W v n1 xs n2 ys ∧ xs.length ≤ 35184372088832 ∧ ys.length ≤ 35184372088832 := by
  obtain ⟨cs, rfl, hsz⟩ := okWide_struct Tryz.underlying44 hv
  obtain ⟨c0, c1, c2, c3, rfl⟩ := array4 (hsz.trans (by kernel_rfl))
  obtain ⟨fuel, hf⟩ := h
  exact ratCells_of (y := (d, p)) (by simpa [Value.cells] using hf) hz
end Go.Proofs.YtomjnjpehokjbaaGreatDoor
