/- A row of entries of one's own, with its room: laws of clear, copy and append within it. -/
import Derived.Test.YtbkcnhbdjllojaaFind
import Derived.ArgAppend
import Derived.Laws.IdiomCopy
namespace Go.Proofs.Ytbkcnhbdjllojaa
open Go.RowKit Go.Shelf

theorem Own.setCells {g : Nat} {t : TypeId} : ∀ (news : List Value) (off : Nat) (vs : List Value) (w : World), Own w g t vs → off + news.length ≤ vs.length → Own (w.setCells g off news) g t (vs.take off ++ news ++ vs.drop (off + news.length))
  | [], off, vs, w, h, _ => by
    show Own w g t _
    simpa using h
  | v :: r, off, vs, w, h, hl => by
    have hl' : off + r.length + 1 ≤ vs.length := by simpa [Nat.add_assoc] using hl
    have h1 := h.set off v
    have ih := Own.setCells r (off + 1) (vs.set off v) (w.setCell ⟨g, off, none⟩ v) h1 (by simp; omega)
    show Own ((w.setCell ⟨g, off, none⟩ v).setCells g (off + 1) r) g t _
    have e : (vs.set off v).take (off + 1) ++ r ++ (vs.set off v).drop (off + 1 + r.length) = vs.take off ++ (v :: r) ++ vs.drop (off + (v :: r).length) := by
      rw [List.take_succ_eq_append_getElem (by simp; omega), List.take_set_of_le (Nat.le_refl _), List.drop_set_of_lt (by omega)]
      simp [Nat.add_assoc, Nat.add_comm 1 r.length]
    rwa [e] at ih
theorem below_setCells {B : Nat} {w : World} {g : Nat} (hg : B ≤ g) : ∀ (news : List Value) (off : Nat) (w' : World), Below B w w' → Below B w (w'.setCells g off news)
  | [], _, _, h => h
  | v :: r, off, w', h => below_setCells hg r (off + 1) (w'.setCell ⟨g, off, none⟩ v) (h.setCell (p := ⟨g, off, none⟩) hg v)
/-- entries of one's own, and the room behind them -/
structure OE (w : World) (base g cap : Nat) (es : List Ent) : Prop where
  lo : base ≤ g
  le : es.length ≤ cap
  mx : cap ≤ maxLen
  own : ∃ sp, Own w g 57 (entVs es ++ sp) ∧ sp.length = 2 * (cap - es.length)
theorem OE.of_own {w : World} {base : Nat} {V : Value} {n : Nat} {es : List Ent} (h : w.ownsRow base 57 2 V n (entVs es)) : (V = .slice none 0 0 ∧ es = []) ∨ ∃ g cap, V = .slice (some ⟨g, 0, none⟩) es.length cap ∧ OE w base g cap es := by
  obtain ⟨hl, ⟨rfl, rfl⟩ | ⟨g, cap, cur, rfl, hb, hg, hc, hm, hs, ht⟩⟩ := h
  · rw [entVs_length] at hl
    exact .inl ⟨rfl, List.length_eq_zero_iff.1 (by omega)⟩
  · rw [entVs_length] at hl
    obtain rfl : n = es.length := by omega
    refine .inr ⟨g, cap, rfl, hb, hc, hm, cur.toList.drop (es.length * 2), ?_, ?_⟩
    · unfold Own
      rw [hg, ← ht, List.take_append_drop]
    · simp; omega
theorem OE.down {w : World} {base base' g cap : Nat} {es : List Ent} (h : OE w base g cap es) (hb : base' ≤ base) : OE w base' g cap es := ⟨Nat.le_trans hb h.lo, h.le, h.mx, h.own⟩
theorem OE.below {w w' : World} {base g cap : Nat} {es : List Ent} (h : OE w base g cap es) (hk : Keeps w w') : OE w' base g cap es := by
  obtain ⟨h1, h2, h3, sp, h4, h5⟩ := h
  exact ⟨h1, h2, h3, sp, h4.below hk, h5⟩
theorem OE.lt {w : World} {base g cap : Nat} {es : List Ent} (h : OE w base g cap es) : g < w.heap.size := by
  obtain ⟨_, _, _, sp, h4, -⟩ := h
  exact h4.lt
theorem entR_of {w : World} {g : Nat} {es : List Ent} {sp : List Value} (h : Own w g 57 (entVs es ++ sp)) : EntR w (some ⟨g, 0, none⟩) es := fun j k v hj => by
  obtain ⟨g1, g2⟩ := entVs_get hj
  have l1 := (List.getElem?_eq_some_iff.1 g1).1
  have l2 := (List.getElem?_eq_some_iff.1 g2).1
  refine ⟨g, 0, rfl, h.lt, ?_, ?_⟩
  · rw [h.cell, Nat.zero_add, Nat.mul_comm, List.getElem?_append_left l1, g1]
  · rw [h.cell, Nat.zero_add, Nat.mul_comm, List.getElem?_append_left l2, g2]
theorem OE.entR {w : World} {base g cap : Nat} {es : List Ent} (h : OE w base g cap es) : EntR w (some ⟨g, 0, none⟩) es := by
  obtain ⟨_, _, _, sp, h4, -⟩ := h
  exact entR_of h4
theorem own_some {w : World} {g : Nat} {t : TypeId} {vs : List Value} (h : Own w g t vs) {j : Nat} (hj : j < vs.length) : (w.cell? ⟨g, j, none⟩).isSome = true := by
  rw [h.cell, List.getElem?_eq_getElem hj]
  rfl
theorem zero_ent (w : World) : (zeroValue 57).run Try.prog w = .ok (.agg #[.string ⟨#[]⟩, .string ⟨#[]⟩]) w := Try.zeroValue57 w
/-- clear of the last entry of a row -/
theorem run_clear1 {w : World} {g : Nat} {vs : List Value} (h : Own w g 57 vs) {off c : Nat} (ho : off + 2 ≤ vs.length) (ty : TypeId) :
    (Builtin.clear_ #[22] ty #[.slice (some ⟨g, off, none⟩) 1 c]).run Try.prog w = .ok (.tuple #[]) (w.setCells g off [.string ⟨#[]⟩, .string ⟨#[]⟩]) := by
  have hzc : (Builtin.zeroCells (Value.agg #[.string ⟨#[]⟩, .string ⟨#[]⟩]).cells 1).toList = [.string ⟨#[]⟩, .string ⟨#[]⟩] := by kernel_rfl
  have hst := run_storeCells_cells (P := Try.prog) g off [.string ⟨#[]⟩, .string ⟨#[]⟩] 0 w (fun j hj => by rw [Nat.add_zero]; exact own_some h (by simp at hj; omega)) (fun j _ => by rw [Nat.add_zero]; exact h.frozen _) (by simp [Value.oneCell'])
  simp only [Nat.add_zero] at hst
  simp [Builtin.clear_, run_underlying Try.underlying22, zero_ent, hzc, hst]
theorem run_append_in {w : World} {g : Nat} {vs : List Value} (h : Own w g 57 vs) {i cap m c : Nat} (a : Addr) (news : List Value) (hl : news.length = m * 2) (hn : ∀ j u, news[j]? = some u → w.cell? (a.add j) = some u) (h1 : ∀ u ∈ news, u.oneCell' = true)
    (hroom : i + m ≤ cap) (hlen : vs.length = 2 * cap) (ty : TypeId) :
    (Builtin.append_ #[22, 22] ty #[.slice (some ⟨g, 0, none⟩) i cap, .slice (some a) m c]).run Try.prog w = .ok (.slice (some ⟨g, 0, none⟩) (i + m) cap) (w.setCells g (i * 2) news) := by
  obtain ⟨i0, hi, hz0, hz1, hz2⟩ := info_parts info_ent
  have := run_append_room_cells (P := Try.prog) (w := w) 22 ty 57 i0 Try.underlying22 hi g 0 i cap a m c news (by rw [hz1]; exact hl) hn h1 hroom (fun j hj => by rw [hz1]; exact own_some h (by omega)) (fun j _ => h.frozen _)
  rwa [hz1, Nat.zero_add] at this
theorem run_copy_in {w : World} {g : Nat} {vs : List Value} (h : Own w g 57 vs) {off dLen dCap sLen sCap : Nat} (a : Addr) (cs : List Value) (hn : cs.length = 2 * Nat.min sLen dLen)
    (hsrc : ∀ j v, cs[j]? = some v → w.cell? (a.add j) = some v) (h1 : ∀ v ∈ cs, v.oneCell' = true) (hlen : off + cs.length ≤ vs.length) (ty : TypeId) :
    (Builtin.copy_ #[22, 22] ty #[.slice (some ⟨g, off, none⟩) dLen dCap, .slice (some a) sLen sCap]).run Try.prog w = .ok (goInt (Nat.min sLen dLen)) (w.setCells g off cs) := by
  obtain ⟨i0, hi, hz0, hz1, hz2⟩ := info_parts info_ent
  have hl := run_firstCells_some (P := Try.prog) (w := w) 2 (Nat.min sLen dLen) a sLen sCap cs (by omega) hsrc
  have hst := run_storeCells_cells (P := Try.prog) g off cs 0 w (fun j hj => by rw [Nat.add_zero]; exact own_some h (by omega)) (fun j _ => by rw [Nat.add_zero]; exact h.frozen _) h1
  simp only [Nat.add_zero] at hst
  simp [Builtin.copy_, run_underlying Try.underlying22, Builtin.lenOf, sizeOf, typeInfo, hi, hz1, hl, hst]
/-- a builtin's call in a region, by its run -/
theorem step_append_run {P : Program} {ops : Array Oper} {o : Oper} {a : Act} {w : World} {K : Act → World → Prop} {Q : Exit → Act → World → Prop} {E : Prop} (hg : o.guard = none) (d x : Operand) (t : TypeId)
    (hop : o.op = Op.call { callee := Callee.builtin Builtin.append, args := #[d, x], argTypes := #[t, t] }) (v u : Value) (hd : a.eval d = v) (hx : a.eval x = u) {v' : Value} {w' : World}
    (hr : (Builtin.append_ #[t, t] o.type #[v, u]).run P w = .ok v' w') (hK : K (a.put o.dst v') w') :
    if Region.wanted o (yielded ops a.tmps) = true then Oper.wp P o a w K Q else E := by
  have hw : Region.wanted o (yielded ops a.tmps) = true := by simp [Region.wanted, hg]
  rw [if_pos hw]
  unfold Oper.wp
  simp [execOp, hop, resolve, invoke, builtin, hd, hx, hr, Result.andThen]
  exact hK
theorem step_copy_run {P : Program} {ops : Array Oper} {o : Oper} {a : Act} {w : World} {K : Act → World → Prop} {Q : Exit → Act → World → Prop} {E : Prop} (hg : o.guard = none) (d x : Operand) (t : TypeId)
    (hop : o.op = Op.call { callee := Callee.builtin Builtin.copy, args := #[d, x], argTypes := #[t, t] }) (v u : Value) (hd : a.eval d = v) (hx : a.eval x = u) {v' : Value} {w' : World}
    (hr : (Builtin.copy_ #[t, t] o.type #[v, u]).run P w = .ok v' w') (hK : K (a.put o.dst v') w') :
    if Region.wanted o (yielded ops a.tmps) = true then Oper.wp P o a w K Q else E := by
  have hw : Region.wanted o (yielded ops a.tmps) = true := by simp [Region.wanted, hg]
  rw [if_pos hw]
  unfold Oper.wp
  simp [execOp, hop, resolve, invoke, builtin, hd, hx, hr, Result.andThen]
  exact hK
theorem wpList_append_run {P : Program} {w : World} {ops : Array Oper} {rest : List Oper} {o : Oper} {a : Act} {Q : Exit → Act → World → Prop} (hgd : o.guard = none) (d s : Operand) (t : TypeId)
    (ho : o.op = .call { callee := .builtin .append, args := #[d, s], argTypes := #[t, t] }) (v u : Value) (hd : a.eval d = v) (hs : a.eval s = u) {v' : Value} {w' : World}
    (hr : (Builtin.append_ #[t, t] o.type #[v, u]).run P w = .ok v' w') (h : wpList P ops Q rest (a.put o.dst v') w') : wpList P ops Q (o :: rest) a w := by
  refine wpList_plain hgd fun _ hK => ?_
  unfold Oper.wp execOp
  simp only [ho, resolve, invoke, builtin, Sem.run_bind, Sem.run_pure, Result.andThen_ok, List.map_toArray, List.map_cons, List.map_nil, hd, hs, hr]
  exact hK _ _ h
theorem wpList_copy_run {P : Program} {w : World} {ops : Array Oper} {rest : List Oper} {o : Oper} {a : Act} {Q : Exit → Act → World → Prop} (hgd : o.guard = none) (d s : Operand) (t : TypeId)
    (ho : o.op = .call { callee := .builtin .copy, args := #[d, s], argTypes := #[t, t] }) (v u : Value) (hd : a.eval d = v) (hs : a.eval s = u) {v' : Value} {w' : World}
    (hr : (Builtin.copy_ #[t, t] o.type #[v, u]).run P w = .ok v' w') (h : wpList P ops Q rest (a.put o.dst v') w') : wpList P ops Q (o :: rest) a w := by
  refine wpList_plain hgd fun _ hK => ?_
  unfold Oper.wp execOp
  simp only [ho, resolve, invoke, builtin, Sem.run_bind, Sem.run_pure, Result.andThen_ok, List.map_toArray, List.map_cons, List.map_nil, hd, hs, hr]
  exact hK _ _ h
end Go.Proofs.Ytbkcnhbdjllojaa
