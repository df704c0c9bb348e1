/- A row that was made of a constant text, and what append makes of it. No program in sight. -/
import Derived.Test.YtbkcnhbdjllojaaMem3
import Derived.Lib.AppendStr
import Derived.Lib.SlBytesConst
namespace Go.Proofs.Ytbkcnhbdjllojaa
open Go.RowKit

/-- a full row whose cells are known, or a row of the call's own -/
def OutR (w : World) (base : Nat) (e : TypeId) (v : Value) (n : Nat) (xs : List Value) : Prop :=
  w.ownsRow base e 1 v n xs ∨ ∃ g, v = .slice (some ⟨g, 0, none⟩) n n ∧ base ≤ g ∧ g < w.heap.size ∧ xs.length = n ∧ (∀ j u, xs[j]? = some u → w.cell? ⟨g, j, none⟩ = some u) ∧ ∃ cs fr, w.heap[g]? = some (.cells cs e fr)
theorem OutR.keeps {w w' : World} {base : Nat} {e : TypeId} {v : Value} {n : Nat} {xs : List Value} (h : OutR w base e v n xs) (hk : Keeps w w') : OutR w' base e v n xs := by
  rcases h with h | ⟨g, rfl, h1, h2, h3, h4, cs, fr, h5⟩
  · exact .inl (h.keeps hk)
  · exact .inr ⟨g, rfl, h1, Nat.lt_of_lt_of_le h2 hk.size, h3, fun j u hj => (hk.cell (p := ⟨g, j, none⟩) h2).trans (h4 j u hj), cs, fr, (hk.block g h2).trans h5⟩
theorem OutR.lo {w : World} {base : Nat} {e : TypeId} {v : Value} {n : Nat} {xs : List Value} (h : OutR w base e v n xs) : ∀ b, v.ownBlock = some b → base ≤ b ∧ b < w.heap.size := by
  rcases h with h | ⟨g, rfl, h1, h2, h3, h4, -⟩
  · exact fun b e => h.lt b e
  · intro b e; cases e; exact ⟨h1, h2⟩
theorem OutR.form {w : World} {base : Nat} {e : TypeId} {v : Value} {n : Nat} {xs : List Value} (h : OutR w base e v n xs) : ∃ A c, v = .slice A n c ∧ n ≤ c ∧ c ≤ maxLen ∨ ∃ g, v = .slice (some ⟨g, 0, none⟩) n n := by
  rcases h with h | ⟨g, rfl, -⟩
  · obtain ⟨A, c, e, h1, h2, -⟩ := h.sl
    exact ⟨A, c, .inl ⟨e, h1, h2⟩⟩
  · exact ⟨none, 0, .inr ⟨g, rfl⟩⟩
theorem OutR.sl {w : World} {base : Nat} {e : TypeId} {v : Value} {n : Nat} {xs : List Value} (h : OutR w base e v n xs) : ∃ A c, v = .slice A n c := by
  rcases h with h | ⟨g, rfl, -⟩
  · obtain ⟨A, c, e, -⟩ := h.sl
    exact ⟨A, c, e⟩
  · exact ⟨_, _, rfl⟩
/-- such a row is no box of another type -/
theorem OutR.ne {w : World} {base : Nat} {e t : TypeId} {v : Value} {n : Nat} {xs vs : List Value} {b : Nat} (h : OutR w base e v n xs) (ho : Own w b t vs) (ht : t ≠ e) : some b ≠ v.ownBlock := by
  unfold Own at ho
  rcases h with ⟨hl, ⟨rfl, -⟩ | ⟨g, cap, cur, rfl, hb, hg, hr⟩⟩ | ⟨g, rfl, -, -, -, -, cs, fr, hg⟩
  · simp [Value.ownBlock]
  · intro e'
    simp only [Value.ownBlock, Option.some.injEq] at e'
    subst e'
    rw [ho] at hg
    cases hg
    exact ht rfl
  · intro e'
    simp only [Value.ownBlock, Option.some.injEq] at e'
    subst e'
    rw [ho] at hg
    cases hg
    exact ht rfl
theorem addr0 (g j : Nat) : (⟨g, 0, none⟩ : Addr).add j = ⟨g, j, none⟩ := by unfold Addr.add; split <;> simp_all
section
variable {P : Program} {w : World}
theorem run_append_out_string (base : Nat) (t u ty e : TypeId) (i : TypeInfo) (ht : P.underlying t = some (.slice e)) (hu : P.underlying u = some .string) (hi : P.info? e = some i) (hz : i.zero = some (.int .u8 0))
    (hsize : i.size = 1) (hby : i.bytes = 1) (v : Value) (n : Nat) (xs : List Value) (hown : OutR w base e v n xs) (s : ByteArray) (h0 : 0 < s.size)
    (h63 : n + s.size ≤ maxLen) (hbytes : n + s.size ≤ 140737488355328) (hbase : base ≤ w.heap.size) :
    ∃ v' w', (Builtin.append_ #[t, u] ty #[v, .string s]).run P w = .ok v' w' ∧ w'.ownsRow base e 1 v' (n + s.size) (xs ++ Lib.strCells s) ∧ w.grownBy w' v.ownBlock := by
  rcases hown with h | ⟨g, rfl, h1, h2, h3, h4, -⟩
  · obtain ⟨v', w', a, b, c, -⟩ := Lib.run_append_own_string (P := P) w base t u ty e i ht hu hi hz hsize hby v n xs h s h63 hbytes hbase
    exact ⟨v', w', a, b, c⟩
  · have hr := Lib.run_append_grow_string (P := P) w t u ty e i (.int .u8 0) ht hu hi hz ⟨g, 0, none⟩ n n xs (by rw [hsize]; omega) (fun j v hj => by rw [addr0]; exact h4 j v hj) s (by omega) (by simp only [maxLen] at h63; omega) (by rw [hby]; exact growslice_fits (by omega) (by omega))
    have hge := grownCap_ge w (n + s.size) n e
    have hcm := grownCap_le_maxLen w (n + s.size) n e h63
    refine ⟨_, _, hr, ⟨by rw [List.length_append, Lib.strCells_length]; omega, .inr ⟨w.heap.size, _, _, rfl, hbase, heap_alloc_new w.drew _, hge, hcm, ?_, ?_⟩⟩, ⟨rfl, rfl, rfl, by simp, fun k hk _ => heap_alloc_old w.drew _ hk⟩⟩
    · simp only [Array.size_append, List.size_toArray, size_zeroCells, Lib.strCells_length, h3]
      simp [Value.cells]
      omega
    · simp only [Array.toList_append, List.append_assoc]
      rw [← List.append_assoc]
      have : (n + s.size) * 1 = (xs ++ Lib.strCells s).length := by rw [List.length_append, Lib.strCells_length]; omega
      rw [this]
      exact List.take_left
theorem run_append_out (base : Nat) (t ty e : TypeId) (i : TypeInfo) (z : Value) (bytes : Nat) (ht : P.underlying t = some (.slice e)) (hi : P.info? e = some i) (hz : i.zero = some z)
    (hsize : i.size = 1) (hby : i.bytes = bytes) (hzs : z.cells.size = 1) (v : Value) (n : Nat) (xs : List Value) (hown : OutR w base e v n xs)
    (a : Addr) (m c : Nat) (news : List Value) (hl : news.length = m) (hnews : ∀ j u, news[j]? = some u → w.cell? (a.add j) = some u) (h1 : ∀ u ∈ news, u.oneCell' = true) (h0 : 0 < m)
    (h63 : n + m ≤ maxLen) (hbytes : (n + m) * bytes ≤ 140737488355328) (hbase : base ≤ w.heap.size) :
    ∃ v' w', (Builtin.append_ #[t, t] ty #[v, .slice (some a) m c]).run P w = .ok v' w' ∧ w'.ownsRow base e 1 v' (n + m) (xs ++ news) ∧ w.grownBy w' v.ownBlock := by
  rcases hown with h | ⟨g, rfl, g1, g2, g3, g4, -⟩
  · obtain ⟨v', w', a, b, c, -⟩ := run_append_own (P := P) w base t ty e i z 1 bytes ht hi hz hsize hby hzs (by omega) v n xs h a m c news (by omega) hnews h1 h63 hbytes hbase
    exact ⟨v', w', a, b, c⟩
  · have hr := run_append_grow (P := P) w t ty e i z ht hi hz ⟨g, 0, none⟩ n n xs (by rw [hsize]; omega) (fun j v hj => by rw [addr0]; exact g4 j v hj) a m c news (by rw [hsize]; omega) hnews (by omega) (by simp only [maxLen] at h63; omega) (growslice_fits (by omega) (by rw [hby]; exact hbytes))
    have hge := grownCap_ge w (n + m) n e
    have hcm := grownCap_le_maxLen w (n + m) n e h63
    refine ⟨_, _, hr, ⟨by rw [List.length_append]; omega, .inr ⟨w.heap.size, _, _, rfl, hbase, heap_alloc_new w.drew _, hge, hcm, ?_, ?_⟩⟩, ⟨rfl, rfl, rfl, by simp, fun k hk _ => heap_alloc_old w.drew _ hk⟩⟩
    · simp only [Array.size_append, List.size_toArray, size_zeroCells, hzs, g3, hl]
      omega
    · simp only [Array.toList_append, List.append_assoc]
      rw [← List.append_assoc]
      have : (n + m) * 1 = (xs ++ news).length := by rw [List.length_append]; omega
      rw [this]
      exact List.take_left
theorem wpList_append_out_string {ops : Array Oper} {rest : List Oper} {o : Oper} {a : Act} {Q : Exit → Act → World → Prop} (hgd : o.guard = none) (sl x : Operand) (t u : TypeId)
    (ho : o.op = .call { callee := .builtin .append, args := #[sl, x], argTypes := #[t, u] })
    (base : Nat) (e : TypeId) (i : TypeInfo) (ht : P.underlying t = some (.slice e)) (hu : P.underlying u = some .string) (hi : P.info? e = some i) (hz : i.zero = some (.int .u8 0))
    (hsize : i.size = 1) (hby : i.bytes = 1)
    (v : Value) (n : Nat) (xs : List Value) (hs : a.eval sl = v) (hown : OutR w base e v n xs) (s : ByteArray) (hx : a.eval x = .string s) (h0 : 0 < s.size)
    (h63 : n + s.size ≤ maxLen) (hbytes : n + s.size ≤ 140737488355328) (hbase : base ≤ w.heap.size)
    (h : ∀ v' w', w'.ownsRow base e 1 v' (n + s.size) (xs ++ Lib.strCells s) → w.grownBy w' v.ownBlock → wpList P ops Q rest (a.put o.dst v') w') : wpList P ops Q (o :: rest) a w := by
  refine wpList_plain hgd fun K hK => ?_
  obtain ⟨v', w', hr, h2, h3⟩ := run_append_out_string (P := P) (w := w) base t u o.type e i ht hu hi hz hsize hby v n xs hown s h0 h63 hbytes hbase
  unfold Oper.wp execOp
  simp only [ho, resolve, invoke, builtin, Sem.run_bind, Sem.run_pure, Result.andThen_ok, List.map_toArray, List.map_cons, List.map_nil, hs, hx, hr]
  exact hK _ _ (h v' w' h2 h3)
theorem wpList_append_out {ops : Array Oper} {rest : List Oper} {o : Oper} {a : Act} {Q : Exit → Act → World → Prop} (hgd : o.guard = none) (s x : Operand) (t : TypeId)
    (ho : o.op = .call { callee := .builtin .append, args := #[s, x], argTypes := #[t, t] })
    (base : Nat) (e : TypeId) (i : TypeInfo) (z : Value) (bytes : Nat) (ht : P.underlying t = some (.slice e)) (hi : P.info? e = some i) (hz : i.zero = some z)
    (hsize : i.size = 1) (hby : i.bytes = bytes) (hzs : z.cells.size = 1) (v : Value) (n : Nat) (xs : List Value) (hs : a.eval s = v) (hown : OutR w base e v n xs)
    (ad : Addr) (m c : Nat) (news : List Value) (hx : a.eval x = .slice (some ad) m c) (hl : news.length = m) (hnews : ∀ j u, news[j]? = some u → w.cell? (ad.add j) = some u) (h1 : ∀ u ∈ news, u.oneCell' = true) (h0 : 0 < m)
    (h63 : n + m ≤ maxLen) (hbytes : (n + m) * bytes ≤ 140737488355328) (hbase : base ≤ w.heap.size)
    (h : ∀ v' w', w'.ownsRow base e 1 v' (n + m) (xs ++ news) → w.grownBy w' v.ownBlock → wpList P ops Q rest (a.put o.dst v') w') : wpList P ops Q (o :: rest) a w := by
  refine wpList_plain hgd fun K hK => ?_
  obtain ⟨v', w', hr, h2, h3⟩ := run_append_out (P := P) (w := w) base t o.type e i z bytes ht hi hz hsize hby hzs v n xs hown ad m c news hl hnews h1 h0 h63 hbytes hbase
  unfold Oper.wp execOp
  simp only [ho, resolve, invoke, builtin, Sem.run_bind, Sem.run_pure, Result.andThen_ok, List.map_toArray, List.map_cons, List.map_nil, hs, hx, hr]
  exact hK _ _ (h v' w' h2 h3)
end
end Go.Proofs.Ytbkcnhbdjllojaa
