/- More on rows of the call's own: where an appended row lies. No program in sight. -/
import Derived.Test.YtbkcnhbdjllojaaHeap
namespace Go.Proofs.Ytbkcnhbdjllojaa
open Go.RowKit

/-- append at a step of a region that draws; where the new row lies -/
theorem step_append_at {P : Program} {w : World} {ops : Array Oper} {o : Oper} {a : Act} {K : Act → World → Prop} {Q : Exit → Act → World → Prop} {E : Prop} (hgd : o.guard = none) (s x : Operand) (t : TypeId)
    (ho : o.op = .call { callee := .builtin .append, args := #[s, x], argTypes := #[t, t] })
    (base : Nat) (e : TypeId) (i : TypeInfo) (z : Value) (size bytes : Nat) (ht : P.underlying t = some (.slice e)) (hi : P.info? e = some i) (hz : i.zero = some z)
    (hsize : i.size = size) (hby : i.bytes = bytes) (hzs : z.cells.size = size) (hsz : 0 < size)
    (v : Value) (n : Nat) (xs : List Value) (hs : a.eval s = v) (hown : w.ownsRow base e size v n xs)
    (ad : Addr) (m c : Nat) (news : List Value) (hx : a.eval x = .slice (some ad) m c) (hl : news.length = m * size) (hnews : ∀ j u, news[j]? = some u → w.cell? (ad.add j) = some u) (h1 : ∀ u ∈ news, u.oneCell' = true)
    (h63 : n + m ≤ maxLen) (hbytes : (n + m) * bytes ≤ 140737488355328) (hbase : base ≤ w.heap.size)
    (h : ∀ v' w', w'.ownsRow base e size v' (n + m) (xs ++ news) → w.grownBy w' v.ownBlock → (v'.ownBlock = v.ownBlock ∨ v'.ownBlock = some w.heap.size) → K (a.put o.dst v') w') :
    if Region.wanted o (yielded ops a.tmps) = true then Oper.wp P o a w K Q else E := by
  have hw : Region.wanted o (yielded ops a.tmps) = true := by simp [Region.wanted, hgd]
  rw [if_pos hw]
  obtain ⟨v', w', hr, h2, h3, h4, h5⟩ := run_append_own_at (P := P) w base t o.type e i z size bytes ht hi hz hsize hby hzs hsz v n xs hown ad m c news hl hnews h1 h63 hbytes hbase
  unfold Oper.wp execOp
  simp only [ho, resolve, invoke, builtin, Sem.run_bind, Sem.run_pure, Result.andThen_ok, List.map_toArray, List.map_cons, List.map_nil, hs, hx, hr]
  exact h v' w' h2 h3 h5
theorem blk_ne {v v' : Value} {b n : Nat} (h : v'.ownBlock = v.ownBlock ∨ v'.ownBlock = some n) (h1 : v.ownBlock ≠ some b) (h2 : b < n) : v'.ownBlock ≠ some b := by
  rcases h with h | h
  · rw [h]; exact h1
  · rw [h]; intro e; cases e; omega
/-- bytes as cells -/
def u8s (xs : List Nat) : List Value := xs.map fun (x : Nat) => Value.int .u8 x
theorem u8s_length (xs : List Nat) : (u8s xs).length = xs.length := by simp [u8s]
theorem u8s_append (xs ys : List Nat) : u8s (xs ++ ys) = u8s xs ++ u8s ys := by simp [u8s]
theorem u8s_snoc (xs : List Nat) (x : Nat) : u8s (xs ++ [x]) = u8s xs ++ [.int .u8 (x : Nat)] := by simp [u8s]
theorem u8s_get {xs : List Nat} {j : Nat} (h : j < xs.length) : (u8s xs)[j]? = some (.int .u8 (xs.getD j 0 : Nat)) := by simp [u8s, h]
/-- a row of one-cell elements of one's own, opened -/
theorem _root_.Go.World.ownsRow.open1 {w : World} {base : Nat} {e : TypeId} {v : Value} {n : Nat} {xs : List Value} (h : w.ownsRow base e 1 v n xs) (hn : 0 < n) :
    ∃ g c, v = .slice (some ⟨g, 0, none⟩) n c ∧ base ≤ g ∧ g < w.heap.size ∧ n ≤ c ∧ c ≤ maxLen ∧ (∀ j x, xs[j]? = some x → w.cell? ⟨g, j, none⟩ = some x) ∧ (∀ j, w.frozen? ⟨g, j, none⟩ = false) ∧
      (∀ j u, j < n → (w.setCell ⟨g, j, none⟩ u).ownsRow base e 1 (.slice (some ⟨g, 0, none⟩) n c) n (xs.set j u)) := by
  obtain ⟨hl, ⟨-, rfl⟩ | ⟨g, cap, cur, rfl, hb, hg, h1, h2, h3, h4⟩⟩ := h
  · omega
  · refine ⟨g, cap, rfl, hb, (Array.getElem?_eq_some_iff.1 hg).1, h1, h2, fun j x hj => ?_, fun j => by simp [World.frozen?, hg], fun j u hj => ⟨by simpa using hl, .inr ⟨g, cap, cur.set! j u, rfl, hb, ?_, h1, h2, by simpa using h3, ?_⟩⟩⟩
    · rw [cell_of_row w g j cur e (0, 0) hg]
      rw [← h4, List.getElem?_take] at hj
      split at hj
      · simpa using hj
      · cases hj
    · simp [World.setCell, Array.getElem?_modify, hg]
    · rw [← h4]
      simp [List.take_set]
theorem set_last {α : Type} (l : List α) (x y : α) : (l ++ [x]).set l.length y = l ++ [y] := by simp
theorem ownsRow_far_ne {w : World} {base : Nat} {e : TypeId} {size : Nat} {v : Value} {n : Nat} {xs : List Value} (h : w.ownsRow base e size v n xs) {p : Addr} (hp : v.ownBlock ≠ some p.block) (u : Value) : (w.setCell p u).ownsRow base e size v n xs := by
  obtain ⟨hl, h | ⟨g, cap, cur, rfl, hb', hg, hr⟩⟩ := h
  · exact ⟨hl, .inl h⟩
  · exact ⟨hl, .inr ⟨g, cap, cur, rfl, hb', (Below.heap_setCell w p u g (fun e => hp (by simp [Value.ownBlock, e]))).trans hg, hr⟩⟩
/-- an append leaves every object that is no row of that type -/
theorem grown_obj {w w' : World} {base : Nat} {e : TypeId} {size : Nat} {v : Value} {n : Nat} {xs : List Value} {k : Nat} {o : Obj} (h : w.ownsRow base e size v n xs) (hg : w.grownBy w' v.ownBlock) (hk : w.heap[k]? = some o) (ho : ∀ cs fr, o ≠ .cells cs e fr) : w'.heap[k]? = some o := by
  refine (hg.block k (Array.getElem?_eq_some_iff.1 hk).1 fun e' => ?_).trans hk
  obtain ⟨hl, ⟨rfl, -⟩ | ⟨g, cap, cur, rfl, hb, hg', hr⟩⟩ := h
  · simp [Value.ownBlock] at e'
  · simp only [Value.ownBlock, Option.some.injEq] at e'
    subst e'
    rw [hk] at hg'
    cases hg'
    exact ho _ _ rfl
theorem set_obj {w : World} {p : Addr} {u : Value} {k : Nat} {o : Obj} (hk : w.heap[k]? = some o) (h : k ≠ p.block) : (w.setCell p u).heap[k]? = some o := (Below.heap_setCell w p u k h).trans hk
end Go.Proofs.Ytbkcnhbdjllojaa
