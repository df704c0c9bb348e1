/- The rows' last step: an argument that is an api.Value, opened. -/
import Derived.Test.YtomjnjpehokjbaaGreatDoorCClose
import Derived.Deep.Slices
namespace Go.Proofs.YtomjnjpehokjbaaGreatDoor
open Go.RowKit Go.WideShapes Go.ChangeShapes Go.Joins
section
variable {H : Type} {enc : TypeId × Value → H} {W : World} {base b0 : Nat} {sp : Nat → Bool} {held : Bool} {r : Reach} {v : Value} {d : DataW H} {p : List MemPlace}
set_option maxRecDepth 100000 in
/-- the cell of a []uint32 -/
theorem groups_of {v1 : Value} {m : Nat} {y : DataW H × List MemPlace} (h1 : DataW.trod enc Tryz.prog W base sp held m 25 [v1] = some y) : ∃ xs, U32 W v1 xs ∧ xs.length ≤ maxLen := by
  rcases open_ints Tryz.underlying25 Tryz.underlying51 (by kernel_rfl) h1 with ⟨e, -⟩ | ⟨a, len, cap, zs, e, hb, hl, hm, hz, ey, hc, hw⟩
  · obtain rfl : v1 = .slice none 0 0 := by simpa using e
    exact ⟨[], U32.nil, by simp⟩
  · obtain rfl : v1 = .slice (some a) len cap := by simpa using e
    have hlz : len ≤ zs.length := by rw [hz]; split <;> omega
    have hxl : ((zs.take len).map Int.toNat).length = len := by simp; omega
    have hnn : ∀ j, j < len → zs.getD j 0 = ((((zs.take len).map Int.toNat).getD j 0 : Nat) : Int) := fun j hj => by
      have hm : zs.getD j 0 ∈ zs := by
        have : zs.getD j 0 = zs[j]'(by omega) := by simp [List.getD, show j < zs.length by omega]
        rw [this]
        exact List.getElem_mem _
      have := hw _ hm
      simp only [Lit.wf, Bool.and_eq_true, decide_eq_true_eq] at this
      have h0 : 0 ≤ zs.getD j 0 := this.1
      have e : ((zs.take len).map Int.toNat).getD j 0 = (zs.getD j 0).toNat := by
        simp [List.getD, hj, show j < zs.length by omega]
      rw [e]
      omega
    refine ⟨(zs.take len).map Int.toNat, ⟨some a, cap, by rw [hxl], by omega, hm, by simp, ?_⟩, by rw [hxl]; omega⟩
    rw [hxl]
    intro hp
    have c0 := hc 0 (by omega)
    have hs : a.spot = none := by
      have := World.cell?_spot c0
      simpa [Addr.add] using this
    obtain ⟨bk, off, spot⟩ := a
    obtain rfl : spot = none := hs
    refine ⟨bk, off, rfl, ?_, fun j hj => ?_⟩
    · rcases Nat.lt_or_ge bk W.heap.size with h | h
      · exact h
      · simp [World.cell?, Addr.add, Array.getElem?_eq_none h] at c0
    · have := hc j (by omega)
      rw [add_plain, hnn j hj] at this
      exact this
/-- a struct of four fields, read with less fuel -/
theorem four_fields {P : Program} {t : TypeId} {f0 f1 f2 f3 : Field} {fuel : Nat} {cs : List Value} {x : DataW H × List MemPlace} (ht : P.underlying t = some (.struct #[f0, f1, f2, f3])) (h : DataW.trod enc P W base sp held fuel t cs = some x) :
    ∃ y0 y1 y2 y3 n, n < fuel ∧ DataW.trod enc P W base sp held n f0.type ((cs.drop f0.offset).take (P.cellsOf f0.type)) = some y0 ∧ DataW.trod enc P W base sp held n f1.type ((cs.drop f1.offset).take (P.cellsOf f1.type)) = some y1 ∧
      DataW.trod enc P W base sp held n f2.type ((cs.drop f2.offset).take (P.cellsOf f2.type)) = some y2 ∧ DataW.trod enc P W base sp held n f3.type ((cs.drop f3.offset).take (P.cellsOf f3.type)) = some y3 := by
  obtain ⟨xs, n, hfu, -, -, hlen, hf⟩ := DataW.trod_struct ht h
  match xs, hlen with
  | [y0, y1, y2, y3], _ => exact ⟨y0, y1, y2, y3, n, by omega, by simpa using hf 0 f0 rfl, by simpa using hf 1 f1 rfl, by simpa using hf 2 f2 rfl, by simpa using hf 3 f3 rfl⟩
set_option maxRecDepth 100000 in
/-- the five cells of an api.Value -/
theorem valCells_of : ∀ (fuel : Nat) (cs : List Value) (y : DataW H × List MemPlace), cs.length = 5 → DataW.trod enc Tryz.prog W base sp held fuel 30 cs = some y → ∃ t, ValC anyB maxLen W t cs := by
  intro fuel
  induction fuel using Nat.strongRecOn with
  | ind fuel ih =>
    intro cs y h5 h
    obtain ⟨v0, v1, v2, v3, v4, rfl⟩ := list5 h5
    obtain ⟨y0, y1, y2, y3, n, hfu, h0, h1, h2, h3⟩ := four_fields Tryz.underlying30 h
    have e0 : Tryz.prog.cellsOf 24 = 1 := by kernel_rfl
    have e1 : Tryz.prog.cellsOf 27 = 2 := by kernel_rfl
    have e2 : Tryz.prog.cellsOf 22 = 1 := by kernel_rfl
    have e3 : Tryz.prog.cellsOf 28 = 1 := by kernel_rfl
    have e5 : Tryz.prog.cellsOf 30 = 5 := by kernel_rfl
    simp only [e0, e1, e2, e3, List.drop_zero, List.drop_succ_cons, List.take_succ_cons, List.take_zero] at h0 h1 h2 h3
    obtain ⟨k, ek, -⟩ := DataW.trod_int Tryz.underlying24 h0
    obtain rfl : v0 = .int .i64 k := by simpa using ek
    obtain ⟨z0, z1, n1, rfl, -, g0, g1⟩ := trod_struct2 Tryz.underlying27 h1
    have c0 : Tryz.prog.cellsOf 4 = 1 := by kernel_rfl
    have c1 : Tryz.prog.cellsOf 25 = 1 := by kernel_rfl
    simp only [c0, c1, List.drop_zero, List.drop_succ_cons, List.take_succ_cons, List.take_zero] at g0 g1
    obtain ⟨neg, en, -⟩ := DataW.trod_bool Tryz.underlying4 g0
    obtain rfl : v1 = .bool neg := by simpa using en
    obtain ⟨gs, hU, hgl⟩ := groups_of g1
    obtain ⟨tx, hT⟩ := bytesCells_of h2
    have htl : tx.length ≤ maxLen := by
      obtain ⟨A, c, -, ha, hb, -⟩ := hT
      omega
    rcases DataW.trod_slice Tryz.underlying28 h3 with ⟨e, -⟩ | ⟨a, len, cap, elems, rest, q, hq, e, -, hb, hl, hm, hlen, hel0, -, -⟩
    · obtain rfl : v4 = .slice none 0 0 := by simpa using e
      exact ⟨.mk k neg gs tx [], ValC.make ⟨hgl, htl, by simp⟩ hU hT ⟨by simp, by simp [maxLen], fun _ => rfl⟩ ElsC.nil⟩
    · obtain rfl : v4 = .slice (some a) len cap := by simpa using e
      rw [e5] at hel0
      have hel : ∀ i, i < len → ∃ cs', W.cells? base (a.add (i * 5)) 5 = some cs' ∧ ∃ z, DataW.trod enc Tryz.prog W base sp held q 30 cs' = some z := fun i hi => by
        have h1 := hel0 i hi
        rw [List.getElem?_eq_getElem (by omega)] at h1
        obtain ⟨cs', h2, h3⟩ := Option.bind_eq_some_iff.1 h1
        exact ⟨cs', h2, _, h3⟩
      clear hel0 hlen
      have hsp : 0 < len → a.spot = none := fun h0 => by
        obtain ⟨cs, h1, -⟩ := hel 0 (by omega)
        obtain ⟨-, hlen, hc⟩ := World.cells?_some h1
        obtain ⟨c0, c1, c2, c3, c4, rfl⟩ := list5 hlen
        have g0 := hc 0 (by omega)
        simp only [List.getElem?_cons_zero] at g0
        have hz := World.cell?_spot g0
        simpa [Addr.add] using hz
      have key : ∀ i, i < len → ∃ x : Tr, ∃ b o c0 c1 c2 c3 c4, some a = some (⟨b, o, none⟩ : Addr) ∧ b < W.heap.size ∧ (W.cell? ⟨b, o + i * 5, none⟩ = some c0 ∧ W.cell? ⟨b, o + i * 5 + 1, none⟩ = some c1 ∧ W.cell? ⟨b, o + i * 5 + 2, none⟩ = some c2 ∧ W.cell? ⟨b, o + i * 5 + 3, none⟩ = some c3 ∧ W.cell? ⟨b, o + i * 5 + 4, none⟩ = some c4) ∧ ValC anyB maxLen W x [c0, c1, c2, c3, c4] := by
        intro i hi
        obtain ⟨cs, h1, z, h2⟩ := hel i (by omega)
        obtain ⟨-, hlen, hc⟩ := World.cells?_some h1
        obtain ⟨c0, c1, c2, c3, c4, rfl⟩ := list5 hlen
        have g0 := hc 0 (by omega)
        have g1 := hc 1 (by omega)
        have g2 := hc 2 (by omega)
        have g3 := hc 3 (by omega)
        have g4 := hc 4 (by omega)
        have hs : a.spot = none := hsp (by omega)
        obtain ⟨bk, off, spot⟩ := a
        obtain rfl : spot = none := hs
        rw [add_plain, add_plain] at g0 g1 g2 g3 g4
        obtain ⟨x, hv⟩ := ih _ (by omega) _ _ rfl h2
        refine ⟨x, bk, off, c0, c1, c2, c3, c4, rfl, ?_, ⟨g0, g1, g2, g3, g4⟩, hv⟩
        rcases Nat.lt_or_ge bk W.heap.size with h | h
        · exact h
        · simp [World.cell?, Array.getElem?_eq_none h] at g0
      obtain ⟨f, hf⟩ : ∃ f : Nat → Tr, ∀ i, i < len → ∃ b o c0 c1 c2 c3 c4, some a = some (⟨b, o, none⟩ : Addr) ∧ b < W.heap.size ∧ (W.cell? ⟨b, o + i * 5, none⟩ = some c0 ∧ W.cell? ⟨b, o + i * 5 + 1, none⟩ = some c1 ∧ W.cell? ⟨b, o + i * 5 + 2, none⟩ = some c2 ∧ W.cell? ⟨b, o + i * 5 + 3, none⟩ = some c3 ∧ W.cell? ⟨b, o + i * 5 + 4, none⟩ = some c4) ∧ ValC anyB maxLen W (f i) [c0, c1, c2, c3, c4] :=
        ⟨fun i => if h : i < len then Classical.choose (key i h) else lstT [], fun i hi => by simp only [dif_pos hi]; exact Classical.choose_spec (key i hi)⟩
      have hlen : ((List.range len).map f).length = len := by simp
      have hE : ElsC anyB maxLen W (some a) ((List.range len).map f) := fun j x hj => by
        rw [List.getElem?_map] at hj
        obtain ⟨i, hi, rfl⟩ := Option.map_eq_some_iff.1 hj
        obtain ⟨hlt, rfl⟩ := List.getElem?_eq_some_iff.1 hi
        rw [List.getElem_range]
        obtain ⟨b, o, c0, c1, c2, c3, c4, e, h1, h2, h3⟩ := hf j (by simpa using hlt)
        exact ⟨b, o, c0, c1, c2, c3, c4, e, trivial, h1, h2, h3⟩
      have := ValC.make (k := k) (n := neg) (c := cap) ⟨hgl, htl, by rw [hlen]; omega⟩ hU hT ⟨by rw [hlen]; exact hl, hm, by intro h; cases h⟩ hE
      rw [hlen] at this
      exact ⟨_, this⟩
set_option maxRecDepth 100000 in
theorem valArg_of (hv : Value.okWide Tryz.prog W r b0 30 v) (h : DataW.Trod enc Tryz.prog W base sp held 30 v d p) : ∃ t cs, v = .agg cs.toArray ∧ ValC anyB maxLen W t cs := by
  obtain ⟨cs, rfl, hsz⟩ := okWide_struct Tryz.underlying30 hv
  obtain ⟨fuel, hf⟩ := h
  have h5 : cs.toList.length = 5 := by rw [Array.length_toList]; exact hsz.trans (by kernel_rfl)
  obtain ⟨t, ht⟩ := valCells_of fuel cs.toList (d, p) h5 (by simpa [Value.cells] using hf)
  exact ⟨t, cs.toList, by simp, ht⟩
end
end Go.Proofs.YtomjnjpehokjbaaGreatDoor
