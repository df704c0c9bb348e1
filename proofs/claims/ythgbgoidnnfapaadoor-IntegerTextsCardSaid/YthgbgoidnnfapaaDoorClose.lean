/- The rows' last step, for every law: the arguments opened, read anew behind the call. -/
import Derived.Test.YthgbgoidnnfapaaDoorLawC
import Derived.Lib.SmallJoins
import Derived.Carry
import Derived.ChangeSame
namespace Go.Proofs.YthgbgoidnnfapaaDoor
open Go.RowKit Go.WideShapes Go.ChangeShapes Go.Joins

theorem laidOutP : laidOutB Tryd.prog = true := by kernel_rfl
section
variable {H : Type} {enc : TypeId × Value → H} {P : Program}
theorem post_of_below {f : Func} {s : ChangeSpec} {apart fresh handsOn again : Bool} {W W' : World} {args : Array Value} {v : Value} {ds gs : List (DataW H)} {before pa pv : List MemPlace}
    (hW : DataW.Whole enc P f.params.toList s.vars apart W args.toList ds gs before)
    (hres : ∀ (b : Nat) (sp : Nat → Bool) (hd : Bool), DataW.TrodAll enc P W' b sp hd f.resultTypes.toList (v.resultList f.resultTypes.size) (s.fn H (ds ++ gs)).results [])
    (hargs : ∀ sp : Nat → Bool, (∀ p ∈ before, sp p.block = true) → DataW.TrodAll enc P W' 0 sp true f.params.toList args.toList (s.fn H (ds ++ gs)).args pa)
    (hvars : ∀ sp : Nat → Bool, (∀ p ∈ before, sp p.block = true) → DataW.TrodVars enc P W' sp s.vars (s.fn H (ds ++ gs)).vars pv)
    (hps : before = pa ++ pv) (hb : Below W.heap.size W W')
    (hok : ∀ (j : Nat) (t : TypeId) (r : Value), f.resultTypes[j]? = some t → (v.resultList f.resultTypes.size)[j]? = some r → Value.okWide P W' .any 0 t r) :
    s.post enc P f apart fresh handsOn again W args v W' := by
  have hlt : ∀ p ∈ before, p.block < W.heap.size := fun p hp => hW.lt p hp
  have hold : ∀ p ∈ before, (fun b => decide (b < W.heap.size)) p.block = true := fun p hp => by simpa using hlt p hp
  refine ⟨ds, gs, before, [], pa, pv, hW, hres _ _ _, hargs _ hold, hvars _ hold, World.keptBut_mono (fun p hp => ⟨hp, ?_⟩) (hb.frame (· ∈ before)), fun _ => ?_⟩
  · rw [hps, List.mem_append] at hp
    exact Or.inr hp
  · obtain ⟨_, _, _, _, _, hz, hn⟩ := hW
    refine ⟨hok, _, _, ([] ++ pa) ++ pv, ⟨[] ++ pa, pv, trodAll_append (hargs _ (fun _ _ => rfl)) (hres _ _ _), hvars _ (fun _ _ => rfl), rfl, ?_, ?_⟩, ?_⟩
    · intro b off hp
      have hin : MemPlace.cell b off ∈ before := by rw [hps]; simpa using hp
      rw [hb.frozen (hlt _ hin)]
      exact hz b off hin
    · intro ha
      have := hn ha
      rw [hps] at this
      simpa using this
    · intro p hp _
      rw [hps]
      simpa using hp
/-- the arguments read behind the call as they did -/
theorem trodAll_stays (hl : laidOutB P = true) {W W' : World} {sp : Nat → Bool} (hb : Below W.heap.size W W') : ∀ (ts : List TypeId) (vs : List Value) (ds : List (DataW H)) (ps : List MemPlace),
    (∀ t ∈ ts, P.readableRec t = true ∧ t < P.types.size) → DataW.TrodAll enc P W 0 (fun _ => true) true ts vs ds ps → (∀ x ∈ ps, x.block < W.heap.size) → (∀ x ∈ ps, sp x.block = true) → DataW.TrodAll enc P W' 0 sp true ts vs ds ps
  | [], _, _, _, _, h, _, _ => by
    obtain ⟨rfl, rfl, rfl⟩ := trodAll_nil h
    exact trodAll_mk0
  | t :: ts, vs, ds, ps, ht, h, hlt, hsp => by
    obtain ⟨v, vs', d, ds', p, q, rfl, rfl, rfl, h1, h2⟩ := trodAll_cons h
    refine trodAll_cons_mk (WideElems.Trod_stays hl (ht t List.mem_cons_self).1 (ht t List.mem_cons_self).2 h1 (fun x hx => hb.same (hlt x (List.mem_append_left _ hx))) (fun x hx => hsp x (List.mem_append_left _ hx))) ?_
    exact trodAll_stays hl hb ts vs' ds' q (fun t' h' => ht t' (List.mem_cons_of_mem _ h')) h2 (fun x hx => hlt x (List.mem_append_right _ hx)) (fun x hx => hsp x (List.mem_append_right _ hx))
end

theorem i64_of_wf {z : Int} (h : (Lit.int .i64 z).wf = true) : -9223372036854775808 ≤ z ∧ z ≤ 9223372036854775807 := by
  simp [Lit.wf, IntKind.min, IntKind.max, IntKind.signed, IntKind.bits] at h
  exact h
set_option maxRecDepth 100000 in
/-- an argument of the type api.Int -/
theorem intArg_of {H : Type} {enc : TypeId × Value → H} {W : World} {base b0 : Nat} {sp : Nat → Bool} {held : Bool} {r : Reach} {v : Value} {d : DataW H} {p : List MemPlace}
    (hv : Value.okWide Tryd.prog W r b0 24 v) (h : DataW.Trod enc Tryd.prog W base sp held 24 v d p) : ∃ neg xs, IntArg W v neg xs ∧ xs.length ≤ 9223372036854775807 := by
  obtain ⟨v0, v1, y0, y1, n, rfl, -, -, h0, h1⟩ := open_agg2 Tryd.underlying24 (by kernel_rfl) (by kernel_rfl) hv h
  obtain ⟨neg, e, -⟩ := DataW.trod_bool Tryd.underlying4 h0
  obtain rfl : v0 = .bool neg := by simpa using e
  rcases open_ints Tryd.underlying22 Tryd.underlying48 (by kernel_rfl) h1 with ⟨e, -⟩ | ⟨a, len, cap, zs, e, hb, hl, hm, hz, -, hc, hw⟩
  · obtain rfl : v1 = .slice none 0 0 := by simpa using e
    exact ⟨neg, [], ⟨_, rfl, U32.nil⟩, by simp⟩
  · obtain rfl : v1 = .slice (some a) len cap := by simpa using e
    have hlz : len ≤ zs.length := by rw [hz]; split <;> omega
    have hxl : ((zs.take len).map Int.toNat).length = len := by simp; omega
    have hnn : ∀ j, j < len → zs.getD j 0 = ((((zs.take len).map Int.toNat).getD j 0 : Nat) : Int) := fun j hj => by
      have hm : zs.getD j 0 ∈ zs := by
        have : zs.getD j 0 = zs[j]'(by omega) := by simp [List.getD, show j < zs.length by omega]
        rw [this]
        exact List.getElem_mem _
      have := hw _ hm
      simp only [Lit.wf, Bool.and_eq_true, decide_eq_true_eq] at this
      have h0 : 0 ≤ zs.getD j 0 := this.1
      have e : ((zs.take len).map Int.toNat).getD j 0 = (zs.getD j 0).toNat := by
        simp [List.getD, hj, show j < zs.length by omega]
      rw [e]
      omega
    refine ⟨neg, (zs.take len).map Int.toNat, ⟨_, rfl, some a, cap, by rw [hxl], by omega, hm, by simp, ?_⟩, by rw [hxl]; unfold maxLen at hm; omega⟩
    rw [hxl]
    intro hp
    have c0 := hc 0 (by omega)
    have hs : a.spot = none := by
      have := World.cell?_spot c0
      simpa [Addr.add] using this
    obtain ⟨bk, off, spot⟩ := a
    obtain rfl : spot = none := hs
    refine ⟨bk, off, rfl, ?_, fun j hj => ?_⟩
    · rcases Nat.lt_or_ge bk W.heap.size with h | h
      · exact h
      · simp [World.cell?, Addr.add, Array.getElem?_eq_none h] at c0
    · have := hc j (by omega)
      rw [add_plain, hnn j hj] at this
      exact this
end Go.Proofs.YthgbgoidnnfapaaDoor
