/- The rows' last step, for every law of frames: the arguments opened, read anew behind the call. -/
import Derived.Test.YtbkcnhbdjllojaaKno
import Derived.Test.YtbkcnhbdjllojaaRows
import Derived.Lib.SmallJoins
import Derived.Carry
import Derived.ChangeSame
import Derived.ChangeSlices
import Derived.ChangeMaps5
import Derived.SizedLaws
import Derived.ProofKit
import Derived.OpenShut
import Derived.Deep.SlicePairs
import Derived.Deep.DeepHandedRow
import Derived.Deep.DeepWitnessRowRef
import Derived.Deep.DeepLaidRun
namespace Go.Proofs.Ytbkcnhbdjllojaa
open Go.RowKit Go.WideShapes Go.ChangeShapes Go.Joins

theorem laidOutP : laidOutB Try.prog = true := by kernel_rfl
section
variable {H : Type} {enc : TypeId × Value → H} {P : Program}
theorem post_of_below {f : Func} {s : ChangeSpec} {apart fresh handsOn again : Bool} {W W' : World} {args : Array Value} {v : Value} {ds gs : List (DataW H)} {before pa pv : List MemPlace}
    (hW : DataW.Whole enc P f.params.toList s.vars apart W args.toList ds gs before)
    (hres : ∀ (b : Nat) (sp : Nat → Bool) (hd : Bool), DataW.TrodAll enc P W' b sp hd f.resultTypes.toList (v.resultList f.resultTypes.size) (s.fn H (ds ++ gs)).results [])
    (hargs : ∀ sp : Nat → Bool, (∀ p ∈ before, sp p.block = true) → DataW.TrodAll enc P W' 0 sp true f.params.toList args.toList (s.fn H (ds ++ gs)).args pa)
    (hvars : ∀ sp : Nat → Bool, (∀ p ∈ before, sp p.block = true) → DataW.TrodVars enc P W' sp s.vars (s.fn H (ds ++ gs)).vars pv)
    (hps : before = pa ++ pv) (hb : Below W.heap.size W W')
    (hok : ∀ (j : Nat) (t : TypeId) (r : Value), f.resultTypes[j]? = some t → (v.resultList f.resultTypes.size)[j]? = some r → Value.okWide P W' .any 0 t r) :
    s.post enc P f apart fresh handsOn again W args v W' := by
  have hlt : ∀ p ∈ before, p.block < W.heap.size := fun p hp => hW.lt p hp
  have hold : ∀ p ∈ before, (fun b => decide (b < W.heap.size)) p.block = true := fun p hp => by simpa using hlt p hp
  refine ⟨ds, gs, before, [], pa, pv, hW, hres _ _ _, hargs _ hold, hvars _ hold, World.keptBut_mono (fun p hp => ⟨hp, ?_⟩) (hb.frame (· ∈ before)), fun _ => ?_⟩
  · rw [hps, List.mem_append] at hp
    exact Or.inr hp
  · obtain ⟨_, _, _, _, _, hz, hn⟩ := hW
    refine ⟨hok, _, _, ([] ++ pa) ++ pv, ⟨[] ++ pa, pv, trodAll_append (hargs _ (fun _ _ => rfl)) (hres _ _ _), hvars _ (fun _ _ => rfl), rfl, ?_, ?_⟩, ?_⟩
    · intro b off hp
      have hin : MemPlace.cell b off ∈ before := by rw [hps]; simpa using hp
      rw [hb.frozen (hlt _ hin)]
      exact hz b off hin
    · intro ha
      have := hn ha
      rw [hps] at this
      simpa using this
    · intro p hp _
      rw [hps]
      simpa using hp
/-- the arguments read behind the call as they did -/
theorem trodAll_stays (hl : laidOutB P = true) {W W' : World} {sp : Nat → Bool} (hb : Below W.heap.size W W') : ∀ (ts : List TypeId) (vs : List Value) (ds : List (DataW H)) (ps : List MemPlace),
    (∀ t ∈ ts, P.readableRec t = true ∧ t < P.types.size) → DataW.TrodAll enc P W 0 (fun _ => true) true ts vs ds ps → (∀ x ∈ ps, x.block < W.heap.size) → (∀ x ∈ ps, sp x.block = true) → DataW.TrodAll enc P W' 0 sp true ts vs ds ps
  | [], _, _, _, _, h, _, _ => by
    obtain ⟨rfl, rfl, rfl⟩ := trodAll_nil h
    exact trodAll_mk0
  | t :: ts, vs, ds, ps, ht, h, hlt, hsp => by
    obtain ⟨v, vs', d, ds', p, q, rfl, rfl, rfl, h1, h2⟩ := trodAll_cons h
    refine trodAll_cons_mk (WideElems.Trod_stays hl (ht t List.mem_cons_self).1 (ht t List.mem_cons_self).2 h1 (fun x hx => hb.same (hlt x (List.mem_append_left _ hx))) (fun x hx => hsp x (List.mem_append_left _ hx))) ?_
    exact trodAll_stays hl hb ts vs' ds' q (fun t' h' => ht t' (List.mem_cons_of_mem _ h')) h2 (fun x hx => hlt x (List.mem_append_right _ hx)) (fun x hx => hsp x (List.mem_append_right _ hx))
end

theorem i64_of_wf {z : Int} (h : (Lit.int .i64 z).wf = true) : -9223372036854775808 ≤ z ∧ z ≤ 9223372036854775807 := by
  simp [Lit.wf, IntKind.min, IntKind.max, IntKind.signed, IntKind.bits] at h
  exact h
section
variable {H : Type} {enc : TypeId × Value → H} {W : World} {base : Nat} {sp : Nat → Bool} {held : Bool} {m : Nat}
set_option maxRecDepth 100000 in
/-- the cell of a []int -/
theorem intsCells_of {v0 : Value} {y : DataW H × List MemPlace} (h : DataW.trod enc Try.prog W base sp held m 23 [v0] = some y) :
    ∃ A c px, v0 = .slice A (List.length px) c ∧ IRow W A px ∧ List.length px ≤ maxLen ∧ ∀ x ∈ px, -9223372036854775808 ≤ x ∧ x ≤ 9223372036854775807 := by
  rcases open_ints Try.underlying23 Try.underlying3 (by kernel_rfl) h with ⟨e, -⟩ | ⟨a, len, cap, zs, e, hb, hl, hm, hz, ey, hc, hw⟩
  · obtain rfl : v0 = .slice none 0 0 := by simpa using e
    exact ⟨none, 0, [], rfl, Row.zero, by simp, by simp⟩
  · obtain rfl : v0 = .slice (some a) len cap := by simpa using e
    have hlz : len ≤ zs.length := by rw [hz]; split <;> omega
    have hlen : (zs.take len).length = len := by simp; omega
    refine ⟨some a, cap, zs.take len, by rw [hlen], fun hp => ?_, by rw [hlen]; omega, fun x hx => i64_of_wf (hw x (List.mem_of_mem_take hx))⟩
    rw [hlen] at hp
    have c0 := hc 0 (by omega)
    have hs : a.spot = none := by
      have := World.cell?_spot c0
      simpa [Addr.add] using this
    obtain ⟨bk, off, spot⟩ := a
    obtain rfl : spot = none := hs
    refine ⟨bk, off, rfl, ?_, fun j hj => ?_⟩
    · rcases Nat.lt_or_ge bk W.heap.size with h | h
      · exact h
      · simp [World.cell?, Addr.add, Array.getElem?_eq_none h] at c0
    · rw [hlen] at hj
      have := hc j (by omega)
      rw [addp] at this
      rw [this]
      simp [iv, List.getD, hj]
set_option maxRecDepth 100000 in
/-- the cell of a []byte -/
theorem byteCells_of {v0 : Value} {y : DataW H × List MemPlace} (h : DataW.trod enc Try.prog W base sp held m 32 [v0] = some y) :
    ∃ A c xs, v0 = .slice A (List.length xs) c ∧ BSl W W.heap.size (.slice A (List.length xs) c) xs ∧ Oct xs := by
  rcases open_ints Try.underlying32 Try.underlying5 (by kernel_rfl) h with ⟨e, -⟩ | ⟨a, len, cap, zs, e, hb, hl, hm, hz, ey, hc, hw⟩
  · obtain rfl : v0 = .slice none 0 0 := by simpa using e
    exact ⟨none, 0, [], rfl, ⟨none, 0, rfl, Nat.le_refl _, by simp [maxLen], fun _ => rfl, Row.zero, fun hp => absurd hp (by simp), fun hp => absurd hp (by simp)⟩, (fun x hx => by cases hx)⟩
  · obtain rfl : v0 = .slice (some a) len cap := by simpa using e
    have hlz : len ≤ zs.length := by rw [hz]; split <;> omega
    have hwf : ∀ x ∈ zs, 0 ≤ x ∧ x < 256 := fun x hx => by
      have h1 : IntKind.u8.min = 0 := rfl
      have h2 : IntKind.u8.max = 255 := rfl
      have := hw x hx
      simp only [Lit.wf, Bool.and_eq_true, decide_eq_true_eq] at this
      omega
    have hlen : ((zs.take len).map Int.toNat).length = len := by simp; omega
    have hsp : 0 < len → a.spot = none := fun hp => by
      have := World.cell?_spot (hc 0 (by omega))
      simpa [Addr.add] using this
    have hin : 0 < len → a.block < W.heap.size := fun hp => by
      rcases Nat.lt_or_ge a.block W.heap.size with h | h
      · exact h
      · have c0 := hc 0 (by omega)
        simp [World.cell?, Addr.add, Array.getElem?_eq_none h] at c0
    refine ⟨some a, cap, (zs.take len).map Int.toNat, by rw [hlen], ⟨some a, cap, rfl, by rw [hlen]; omega, hm, by simp, fun hp => ?_, fun hp b o e => ?_, fun hp b o s e => ?_⟩, fun x hx => ?_⟩
    · rw [hlen] at hp
      have hs := hsp hp
      have hb := hin hp
      obtain ⟨bk, off, spot⟩ := a
      obtain rfl : spot = none := hs
      refine ⟨bk, off, rfl, hb, fun j hj => ?_⟩
      rw [hlen] at hj
      have := hc j (by omega)
      rw [addp] at this
      rw [this]
      have hmem : zs.getD j 0 ∈ zs := by
        have : zs.getD j 0 = zs[j]'(by omega) := by simp [List.getD, show j < zs.length by omega]
        rw [this]
        exact List.getElem_mem _
      have h0 := hwf _ hmem
      have e : ((zs.take len).map Int.toNat).getD j 0 = (zs.getD j 0).toNat := by
        simp [List.getD, hj, show j < zs.length by omega]
      rw [bv, e]
      congr 2
      omega
    · rw [hlen] at hp
      have := hin hp
      cases e
      exact this
    · rw [hlen] at hp
      have := hsp hp
      cases e
      exact this
    · obtain ⟨z, hz, rfl⟩ := List.mem_map.1 hx
      have := hwf z (List.mem_of_mem_take hz)
      omega
set_option maxRecDepth 100000 in
/-- the cell of a []api.Entry -/
theorem entCells_of {v0 : Value} {y : DataW H × List MemPlace} (h : DataW.trod enc Try.prog W base sp held m 22 [v0] = some y) :
    ∃ A c es, v0 = .slice A (List.length es) c ∧ EntR W A es ∧ List.length es ≤ maxLen := by
  rcases Go.Deep.open_slice_pairs Try.underlying22 Try.underlying57 (by kernel_rfl) rfl rfl (by kernel_rfl) (by kernel_rfl) h with ⟨e, -⟩ | ⟨a, len, cap, m', n, V0, V1, D0, D1, P0, P1, e, hb, hl, hm, hmm, ey, hc⟩
  · obtain rfl : v0 = .slice none 0 0 := by simpa using e
    exact ⟨none, 0, [], rfl, fun j k v hj => by simp at hj, by simp⟩
  · obtain rfl : v0 = .slice (some a) len cap := by simpa using e
    have hlm : len ≤ m' := by rw [hmm]; split <;> omega
    have key : ∀ i, i < len → ∃ k v : ByteArray, V0 i = .string k ∧ V1 i = .string v := fun i hi => by
      obtain ⟨-, -, h0, h1⟩ := hc i (by omega)
      obtain ⟨k, e0, -⟩ := DataW.trod_string Try.underlying9 h0
      obtain ⟨v, e1, -⟩ := DataW.trod_string Try.underlying9 h1
      exact ⟨k, v, by simpa using e0, by simpa using e1⟩
    obtain ⟨f, hf⟩ : ∃ f : Nat → Ent, ∀ i, i < len → V0 i = .string (f i).1 ∧ V1 i = .string (f i).2 :=
      ⟨fun i => if h : i < len then ((key i h).choose, (key i h).choose_spec.choose) else (⟨#[]⟩, ⟨#[]⟩), fun i hi => by simp only [dif_pos hi]; exact (key i hi).choose_spec.choose_spec⟩
    have hlen : ((List.range len).map f).length = len := by simp
    refine ⟨some a, cap, (List.range len).map f, by rw [hlen], fun j k v hj => ?_, by rw [hlen]; omega⟩
    rw [List.getElem?_map] at hj
    obtain ⟨i, hi, ee⟩ := Option.map_eq_some_iff.1 hj
    obtain ⟨hlt, rfl⟩ := List.getElem?_eq_some_iff.1 hi
    rw [List.getElem_range] at ee
    have hj' : j < len := by simpa using hlt
    obtain ⟨g0, g1, -, -⟩ := hc j (by omega)
    obtain ⟨f0, f1⟩ := hf j hj'
    rw [f0, ee] at g0
    rw [f1, ee] at g1
    have hs : a.spot = none := by
      have := World.cell?_spot g0
      unfold Addr.add at this
      split at this
      · exact this
      · obtain ⟨q0, -, -, -⟩ := hc 0 (by omega)
        have := World.cell?_spot q0
        simpa [Addr.add] using this
    obtain ⟨bk, off, spot⟩ := a
    obtain rfl : spot = none := hs
    rw [addp] at g0 g1
    refine ⟨bk, off, rfl, ?_, g0, by rw [Nat.add_assoc]; exact g1⟩
    rcases Nat.lt_or_ge bk W.heap.size with h | h
    · exact h
    · simp [World.cell?, Array.getElem?_eq_none h] at g0
set_option maxRecDepth 100000 in
/-- the four cells of an api.Raster -/
theorem rasCells_of {c0 c1 c2 c3 : Value} {y : DataW H × List MemPlace} (h : DataW.trod enc Try.prog W base sp held m 25 [c0, c1, c2, c3] = some y) :
    ∃ (Wd Ht mx : Int) (A : Option Addr) (c : Nat) (px : List Int), c0 = .int .i64 Wd ∧ c1 = .int .i64 Ht ∧ c2 = .int .i64 mx ∧ c3 = .slice A px.length c ∧ IRow W A px ∧ px.length ≤ maxLen := by
  obtain ⟨y0, y1, y2, y3, n, rfl, -, h0, h1, h2, h3⟩ := Go.Joins.trod_struct4 Try.underlying25 h
  have ci : Try.prog.cellsOf 3 = 1 := by kernel_rfl
  have cs : Try.prog.cellsOf 23 = 1 := by kernel_rfl
  simp only [ci, cs, List.drop_zero, List.drop_succ_cons, List.take_succ_cons, List.take_zero] at h0 h1 h2 h3
  obtain ⟨a, ha, -, -⟩ := DataW.trod_int Try.underlying3 h0
  obtain ⟨b, hb, -, -⟩ := DataW.trod_int Try.underlying3 h1
  obtain ⟨c, hc, -, -⟩ := DataW.trod_int Try.underlying3 h2
  obtain ⟨A, cc, px, e, hr, hl, -⟩ := intsCells_of h3
  cases ha; cases hb; cases hc
  exact ⟨a, b, c, A, cc, px, rfl, rfl, rfl, e, hr, hl⟩
set_option maxRecDepth 100000 in
/-- the five cells of an api.Frame -/
theorem frmCells_of {c0 c1 c2 c3 c4 : Value} {y : DataW H × List MemPlace} (h : DataW.trod enc Try.prog W base sp held m 27 [c0, c1, c2, c3, c4] = some y) :
    ∃ (A : Option Addr) (c : Nat) (es : List Ent) (Wd Ht mx : Int) (B : Option Addr) (d : Nat) (px : List Int), c0 = .slice A es.length c ∧ c1 = .int .i64 Wd ∧ c2 = .int .i64 Ht ∧ c3 = .int .i64 mx ∧ c4 = .slice B px.length d ∧
      EntR W A es ∧ IRow W B px ∧ px.length ≤ maxLen ∧ es.length ≤ maxLen := by
  obtain ⟨y0, y1, n, rfl, -, h0, h1⟩ := trod_struct2 Try.underlying27 h
  have ce : Try.prog.cellsOf 22 = 1 := by kernel_rfl
  have cr : Try.prog.cellsOf 25 = 4 := by kernel_rfl
  simp only [ce, cr, List.drop_zero, List.drop_succ_cons, List.take_succ_cons, List.take_zero] at h0 h1
  obtain ⟨A, c, es, e0, hE, hel⟩ := entCells_of h0
  obtain ⟨Wd, Ht, mx, B, d, px, e1, e2, e3, e4, hI, hl⟩ := rasCells_of h1
  exact ⟨A, c, es, Wd, Ht, mx, B, d, px, e0, e1, e2, e3, e4, hE, hI, hl, hel⟩
end
section
variable {H : Type} {enc : TypeId × Value → H} {W : World} {base b0 : Nat} {sp : Nat → Bool} {held : Bool} {r : Reach} {v : Value} {d : DataW H} {p : List MemPlace}
set_option maxRecDepth 100000 in
theorem frmArg_of (hv : Value.okWide Try.prog W r b0 27 v) (h : DataW.Trod enc Try.prog W base sp held 27 v d p) :
    ∃ (A : Option Addr) (c : Nat) (es : List Ent) (Wd Ht mx : Int) (B : Option Addr) (dd : Nat) (px : List Int), v = frmV A es.length c Wd Ht mx B px.length dd ∧ EntR W A es ∧ IRow W B px ∧ px.length ≤ maxLen ∧ es.length ≤ maxLen := by
  obtain ⟨cs, rfl, hsz⟩ := okWide_struct Try.underlying27 hv
  have h5 : cs.size = 5 := hsz.trans (by kernel_rfl)
  obtain ⟨l⟩ := cs
  match l, h5 with
  | [c0, c1, c2, c3, c4], _ =>
    obtain ⟨fuel, hf⟩ := h
    obtain ⟨A, c, es, Wd, Ht, mx, B, dd, px, rfl, rfl, rfl, rfl, rfl, h1⟩ := frmCells_of (y := (d, p)) (by simpa [Value.cells] using hf)
    exact ⟨A, c, es, Wd, Ht, mx, B, dd, px, rfl, h1⟩
set_option maxRecDepth 100000 in
theorem rasArg_of (hv : Value.okWide Try.prog W r b0 25 v) (h : DataW.Trod enc Try.prog W base sp held 25 v d p) :
    ∃ (Wd Ht mx : Int) (B : Option Addr) (dd : Nat) (px : List Int), v = rasV Wd Ht mx (.slice B px.length dd) ∧ IRow W B px ∧ px.length ≤ maxLen := by
  obtain ⟨cs, rfl, hsz⟩ := okWide_struct Try.underlying25 hv
  obtain ⟨c0, c1, c2, c3, rfl⟩ := array4 (hsz.trans (by kernel_rfl))
  obtain ⟨fuel, hf⟩ := h
  obtain ⟨Wd, Ht, mx, B, dd, px, rfl, rfl, rfl, rfl, h1⟩ := rasCells_of (y := (d, p)) (by simpa [Value.cells] using hf)
  exact ⟨Wd, Ht, mx, B, dd, px, rfl, h1⟩
set_option maxRecDepth 100000 in
theorem intsArg_of (hv : Value.okWide Try.prog W r b0 23 v) (h : DataW.Trod enc Try.prog W base sp held 23 v d p) :
    ∃ A c px, v = .slice A (List.length px) c ∧ IRow W A px ∧ List.length px ≤ maxLen ∧ ∀ x ∈ px, -9223372036854775808 ≤ x ∧ x ≤ 9223372036854775807 := by
  obtain ⟨A, len, cap, rfl⟩ := okWide_slice Try.underlying23 hv
  obtain ⟨fuel, hf⟩ := h
  exact intsCells_of (y := (d, p)) (by simpa [Value.cells] using hf)
end
section
variable {H : Type} {enc : TypeId × Value → H} {W : World} {base b0 : Nat} {sp : Nat → Bool} {held : Bool} {r : Reach} {v : Value} {d : DataW H} {p : List MemPlace}
set_option maxRecDepth 100000 in
theorem byteArg_of (hv : Value.okWide Try.prog W r b0 32 v) (h : DataW.Trod enc Try.prog W base sp held 32 v d p) :
    ∃ A c xs, v = .slice A (List.length xs) c ∧ BSl W W.heap.size (.slice A (List.length xs) c) xs ∧ Oct xs := by
  obtain ⟨A, len, cap, rfl⟩ := okWide_slice Try.underlying32 hv
  obtain ⟨fuel, hf⟩ := h
  exact byteCells_of (y := (d, p)) (by simpa [Value.cells] using hf)
end
theorem u16_of_wf {x : Int} (h : (Lit.int .u16 x).wf = true) : 0 ≤ x ∧ x ≤ 65535 := by
  have h1 : IntKind.u16.min = 0 := rfl
  have h2 : IntKind.u16.max = 65535 := rfl
  simp only [Lit.wf, Bool.and_eq_true, decide_eq_true_eq] at h
  omega
theorem arr2_of {H : Type} {enc : TypeId × Value → H} {P : Program} {W : World} {base b0 : Nat} {sp : Nat → Bool} {held : Bool} {r : Reach} {t e : TypeId} {k : IntKind} {v : Value} {d : DataW H} {p : List MemPlace}
    (ht : P.underlying t = some (.array 2 e)) (he : P.underlying e = some (.int k)) (hc : P.cellsOf e = 1) (hct : P.cellsOf t = 2) (hv : Value.okWide P W r b0 t v) (h : DataW.Trod enc P W base sp held t v d p) :
    ∃ a b, v = .agg #[.int k a, .int k b] ∧ (Lit.int k a).wf = true ∧ (Lit.int k b).wf = true := by
  have hv' : ∃ cs, v = .agg cs ∧ cs.size = P.cellsOf t := by
    simp only [Value.okWide, ht] at hv
    obtain ⟨cs, h1, h2, _⟩ := hv
    exact ⟨cs, h1, h2⟩
  obtain ⟨cs, rfl, hsz⟩ := hv'
  obtain ⟨c0, c1, rfl⟩ := array2 (hsz.trans hct)
  obtain ⟨fuel, hf⟩ := h
  have hf' : DataW.trod enc P W base sp held fuel t [c0, c1] = some (d, p) := by simpa [Value.cells] using hf
  obtain ⟨xs, m, -, -, -, hl, hi⟩ := DataW.trod_array ht hf'
  have h0 := hi 0 (by omega)
  have h1 := hi 1 (by omega)
  simp only [hc, Nat.zero_mul, Nat.one_mul, List.drop_zero, List.drop_succ_cons, List.take_succ_cons, List.take_zero] at h0 h1
  have g : ∀ (j : Nat), j < xs.length → ∃ x, xs[j]? = some x := fun j hj => ⟨_, List.getElem?_eq_getElem hj⟩
  obtain ⟨x0, e0⟩ := g 0 (by omega)
  obtain ⟨x1, e1⟩ := g 1 (by omega)
  rw [e0] at h0
  rw [e1] at h1
  obtain ⟨a, ha, -, wa⟩ := DataW.trod_int he h0
  obtain ⟨b, hb, -, wb⟩ := DataW.trod_int he h1
  cases ha; cases hb
  exact ⟨a, b, rfl, wa, wb⟩
theorem ownP : ownKnob Try.prog.godebug = none := by kernel_rfl
/-- the witness's world -/
noncomputable def plainWorld (os : Os) : World := World.holding Try.prog os ⟨#[], #[], []⟩
end Go.Proofs.Ytbkcnhbdjllojaa
