/- Three fractions as one element of a row, and rows beside each other. Append to a row of one's own that holds no group of digits: where the new row lies. No program in sight. slices.Grow and slices.Concat of rows of fractions: the walks. formed's test of one fraction: the walks. -/
import Derived.Test.YtgcigdahjabimaaGreatDoorPr39
import Derived.Test.YtgcigdahjabimaaGreatDoorPr41
import Derived.Test.YtgcigdahjabimaaGreatDoorPr28
import Derived.Test.YtgcigdahjabimaaGreatDoorPr27
import Derived.Lib.AppendZeros
import Derived.Test.YtgcigdahjabimaaGreatDoorPr37
namespace Go.Proofs.YtgcigdahjabimaaGreatDoor
open Go.RowKit Go.Shelf
theorem RatRep.rn {w : World} {V : Value} {q : Rat} (h : RatRep w V q) : ∃ r : Rn, V = r.v := by
 obtain ⟨b, A, n, c, d, B, m, e, rfl⟩ := h.open_
 exact ⟨⟨b, A, n, c, d, B, m, e⟩, rfl⟩
def Tri (w : World) (v : Value) (x y z : Rat) : Prop := ∃ a b c : Rn, v = .agg #[a.a, a.b, a.c, a.d, b.a, b.b, b.c, b.d, c.a, c.b, c.c, c.d] ∧ RatRep w a.v x ∧ RatRep w b.v y ∧ RatRep w c.v z
theorem Tri.keep {w w' : World} {v : Value} {x y z : Rat} (h : Tri w v x y z) (hk : Keeps w w') : Tri w' v x y z := by
 obtain ⟨a, b, c, e, h1, h2, h3⟩ := h
 exact ⟨a, b, c, e, h1.map hk.same32, h2.map hk.same32, h3.map hk.same32⟩
def TriB (w : World) (v : Value) (x y z : Rat) : Prop := ∃ (g : Nat) (a b c : Rn), v = .slice (some ⟨g, 0, none⟩) 1 1 ∧ Own w g 32 [a.a, a.b, a.c, a.d, b.a, b.b, b.c, b.d, c.a, c.b, c.c, c.d] ∧ RatRep w a.v x ∧ RatRep w b.v y ∧ RatRep w c.v z
theorem TriB.keep {w w' : World} {v : Value} {x y z : Rat} (h : TriB w v x y z) (hk : Keeps w w') : TriB w' v x y z := by
 obtain ⟨g, a, b, c, e, h0, h1, h2, h3⟩ := h
 exact ⟨g, a, b, c, e, h0.below hk, h1.map hk.same32, h2.map hk.same32, h3.map hk.same32⟩
theorem TriB.mk {w : World} {a b c : Rn} {x y z : Rat} (h1 : RatRep w a.v x) (h2 : RatRep w b.v y) (h3 : RatRep w c.v z) : TriB (w.alloc (.cells #[a.a, a.b, a.c, a.d, b.a, b.b, b.c, b.d, c.a, c.b, c.c, c.d] 32)) (.slice (some ⟨w.heap.size, 0, none⟩) 1 1) x y z :=
 ⟨_, a, b, c, rfl, Own.new w _ _, h1.map (box2 w _).same32, h2.map (box2 w _).same32, h3.map (box2 w _).same32⟩
def CleanN (w : World) (base : Nat) (e : TypeId) (size : Nat) (v : Value) (n : Nat) (xs : List Value) : Prop := (v = .slice none 0 0 ∧ n = 0 ∧ xs = []) ∨ CleanRow w base e size v n xs
section
variable {w w' : World} {base : Nat} {e : TypeId} {size : Nat} {v : Value} {n : Nat} {xs : List Value}
theorem CleanN.nil : CleanN w base e size (.slice none 0 0) 0 [] := .inl ⟨rfl, rfl, rfl⟩
theorem CleanN.owns (h : CleanN w base e size v n xs) : w.ownsRow base e size v n xs := by
 rcases h with ⟨rfl, rfl, rfl⟩ | h
 ·exact World.ownsRow_nil w base e size
 ·exact h.owns
theorem CleanN.turn {T : List Nat} (h : CleanN w base e size v n xs) (ht : Turn T w w') (hv : ∀ k ∈ blkOf v, k ∉ T) : CleanN w' base e size v n xs := by
 rcases h with h | ⟨g, cap, cur, rfl, hb, hg, hr⟩
 ·exact .inl h
 ·have hlt : g < w.heap.size := (Array.getElem?_eq_some_iff.1 hg).1
  exact .inr ⟨g, cap, cur, rfl, hb, (ht.block g hlt (hv g (by simp [blkOf, Value.ownBlock]))).trans hg, hr⟩
theorem CleanN.keeps (h : CleanN w base e size v n xs) (hk : Keeps w w') : CleanN w' base e size v n xs := h.turn (Turn.of_keeps (T := []) hk) (by simp)
theorem CleanN.same (h : CleanN w base e size v n xs) (hg : w.grownBy w' v.ownBlock) : Same32 w w' := by
 rcases h with ⟨rfl, -, -⟩ | h
 ·have hk : Keeps w w' := (Turn.of_grown (v := .slice none 0 0) hg).keeps (by simp [blkOf, Value.ownBlock])
  exact hk.same32
 ·exact h.same hg
theorem CleanN.lt (h : CleanN w base e size v n xs) : ∀ g, v.ownBlock = some g → base ≤ g ∧ g < w.heap.size := by
 rcases h with ⟨rfl, -, -⟩ | h
 ·intro g hg; simp [Value.ownBlock] at hg
 ·exact h.lt
end
theorem St.grownC {w0 w w' : World} {bs : List Bx} {ps : List (World → Prop)} {base : Nat} {e : TypeId} {size : Nat} {v : Value} {n : Nat} {xs : List Value} (S : St w0 w bs ps) (h : CleanN w base e size v n xs) (hg : w.grownBy w' v.ownBlock) (hlo : w0.heap.size ≤ base) (hbs : ∀ p ∈ bs, p.1 < base) : St w0 w' bs ps := by
 have S2 := S.grownB (base := base) hg (fun b e => (h.lt b e).1) hlo hbs
 exact ⟨S2.k, S2.b, S2.lo, S2.d, S.p.map (h.same hg)⟩
theorem CleanN.irow {w : World} {base : Nat} {A : Option Addr} {n c k : Nat} {l : List Int} (h : CleanN w base 25 k (.slice A n c) n (i64s l)) (hl : l.length = n * k) : IRow w A l := by
 rcases h with ⟨e, rfl, h0⟩ | ⟨g, cap, cur, e, -, hg, -, -, hcs, ht, -⟩
 ·have : l.length = 0 := by omega
  intro hp
  omega
 ·cases e
  intro hp
  refine ⟨g, 0, rfl, (Array.getElem?_eq_some_iff.1 hg).1, fun j hj => ?_⟩
  rw [cell_of_row w g (0 + j) cur _ _ hg, Nat.zero_add]
  have h2 : (i64s l)[j]? = some (.int .i64 (l.getD j 0)) := i64s_at2 hj
  rw [← ht, List.getElem?_take] at h2
  split at h2
  ·simpa [iv] using h2
  ·cases h2
theorem CleanN.row {w : World} {base : Nat} {A : Option Addr} {n c k : Nat} {L : List Rn} {t : TypeId} {qs : List QV} (h : CleanN w base t k (.slice A n c) n (cellsQ L)) (hl : qs.length = L.length) (hn : L.length * 4 = n * k) (hq : ∀ j x, qs[j]? = some x → RatV2 w (L.getD j rz0).v x) : Row4 RatV2 w A qs := fun j z hj => by
 have hjl : j < L.length := by rw [← hl]; exact (List.getElem?_eq_some_iff.1 hj).1
 rcases h with ⟨e, rfl, h0⟩ | ⟨g, cap, cur, e, -, hg, -, -, hcs, ht, -⟩
 ·omega
 ·cases e
  have hc : ∀ i u, (cellsQ L)[i]? = some u → w.cell? ⟨g, i, none⟩ = some u := fun i u hu => by
   rw [cell_of_row w g i cur _ _ hg]
   rw [← ht, List.getElem?_take] at hu
   split at hu
   ·simpa using hu
   ·cases hu
  have c0 := cellsQ_get L hjl (show 0 < 4 by decide)
  have c1 := cellsQ_get L hjl (show 1 < 4 by decide)
  have c2 := cellsQ_get L hjl (show 2 < 4 by decide)
  have c3 := cellsQ_get L hjl (show 3 < 4 by decide)
  refine ⟨g, 0, (L.getD j rz0).a, (L.getD j rz0).b, (L.getD j rz0).c, (L.getD j rz0).d, rfl, ⟨?_, ?_, ?_, ?_⟩, hq j z hj⟩
  ·rw [Nat.zero_add]; exact hc _ _ c0
  ·rw [Nat.zero_add]; exact hc _ _ c1
  ·rw [Nat.zero_add]; exact hc _ _ c2
  ·rw [Nat.zero_add]; exact hc _ _ c3
theorem run_append_at {P : Program} (w : World) (base : Nat) (t ty e : TypeId) (i : TypeInfo) (z : Value) (ht : P.underlying t = some (.slice e)) (hi : P.info? e = some i) (hz : i.zero = some z)
 (hzs : z.cells.size = i.size) (hzc : z.cells.toList.all noU32 = true) (v : Value) (n : Nat) (xs : List Value) (hown : CleanN w base e i.size v n xs)
 (a : Addr) (m c : Nat) (news : List Value) (hl : news.length = m * i.size) (hnews : ∀ j u, news[j]? = some u → w.cell? (a.add j) = some u) (h1 : ∀ u ∈ news, u.oneCell' = true) (hnc : news.all noU32 = true)
 (hm : 0 < m) (h63 : n + m ≤ maxLen) (hbytes : (n + m) * i.bytes ≤ 140737488355328) (hbase : base ≤ w.heap.size) :
 ∃ v' w', (Builtin.append_ #[t, t] ty #[v, .slice (some a) m c]).run P w = .ok v' w' ∧ CleanN w' base e i.size v' (n + m) (xs ++ news) ∧ w.grownBy w' v.ownBlock ∧ ∀ g ∈ blkOf v', g ∈ blkOf v ∨ w.heap.size ≤ g := by
 rcases hown with ⟨rfl, rfl, rfl⟩ | hown
 ·have hsmall : m ≤ 9223372036854775807 := by simp only [maxLen] at h63; omega
  have hr := run_append_nil (P := P) w t ty e i z ht hi hz a m c news hl hnews hm (by omega) (by have hb := hbytes; simp only [Nat.zero_add] at hb; omega)
  have hge := grownCap_ge w m 0 e
  refine ⟨_, _, hr, .inr ⟨w.heap.size, _, _, by rw [Nat.zero_add], hbase, heap_alloc_new w.drew _, by omega, grownCap_le_maxLen w m 0 e (by omega), ?_, ?_, ?_⟩, ⟨rfl, rfl, rfl, by simp, fun k hk _ => heap_alloc_old w.drew _ hk⟩, fun g hg => .inr ?_⟩
  ·simp only [Array.size_append, List.size_toArray, size_zeroCells, hzs, hl, ← Nat.add_mul]
   congr 1
   omega
  ·simp only [Array.toList_append, List.nil_append, Nat.zero_add, ← hl]
   exact List.take_left
  ·simp only [Array.toList_append, List.all_append, hnc, zero_clean hzc, Bool.true_and]
  ·simp [blkOf, Value.ownBlock] at hg
   omega
 ·have ho := hown.owns
  have hsmall : n + m ≤ 9223372036854775807 := by simp only [maxLen] at h63; omega
  have hlen : (xs ++ news).length = (n + m) * i.size := by rw [List.length_append, ho.1, hl, Nat.add_mul]
  obtain ⟨g, cap, cur, rfl, hbg, hg, hnc2, hcm, hcs, htake, hall⟩ := hown
  have hxall : xs.all noU32 = true := by
   rw [List.all_eq_true] at hall ⊢
   intro x hx
   rw [← htake] at hx
   exact hall x (List.mem_of_mem_take hx)
  by_cases hroom : n + m ≤ cap
  ·have hfit : n * i.size + news.length ≤ cur.size := by rw [hl, hcs, ← Nat.add_mul]; exact Nat.mul_le_mul_right _ hroom
   have hr := run_append_room (P := P) w t ty e i ht hi g n cap cur hg a m c news hl hnews h1 hroom hfit
   refine ⟨_, _, hr, .inr ⟨g, cap, _, rfl, hbg, setRow_heap w g cur _ e _ hg, hroom, hcm, ?_, ?_, ?_⟩, ⟨rfl, rfl, rfl, by simp, fun k _ hk => setRow_other w g k _ (fun e => hk (by simp [Value.ownBlock, e]))⟩, fun g' hg' => .inl ?_⟩
   ·simp only [List.size_toArray, List.length_append, List.length_take, List.length_drop, Array.length_toList]
    omega
   ·rw [htake, ← hlen]
    exact List.take_left
   ·rw [htake]
    simp only [List.all_append, hxall, hnc, Bool.true_and]
    rw [List.all_eq_true] at hall ⊢
    intro x hx
    exact hall x (List.mem_of_mem_drop hx)
   ·simpa [blkOf, Value.ownBlock] using hg'
  ·have holds : ∀ j u, xs[j]? = some u → w.cell? ((⟨g, 0, none⟩ : Addr).add j) = some u := ho.cells (g := g) rfl
   have hr := run_append_grow (P := P) w t ty e i z ht hi hz ⟨g, 0, none⟩ n cap xs ho.1 holds a m c news hl hnews (by omega) (by omega) (growslice_fits (by omega) hbytes)
   have hge := grownCap_ge w (n + m) cap e
   refine ⟨_, _, hr, .inr ⟨w.heap.size, _, _, rfl, hbase, heap_alloc_new w.drew _, hge, grownCap_le_maxLen w (n + m) cap e h63, ?_, ?_, ?_⟩, ⟨rfl, rfl, rfl, by simp, fun k hk _ => heap_alloc_old w.drew _ hk⟩, fun g' hg' => .inr ?_⟩
   ·simp only [Array.size_append, List.size_toArray, size_zeroCells, hzs, ho.1, hl, ← Nat.add_mul]
    congr 1
    omega
   ·simp only [Array.toList_append, List.append_assoc]
    rw [← List.append_assoc, ← hlen]
    exact List.take_left
   ·simp only [Array.toList_append, List.all_append, hxall, hnc, zero_clean hzc, Bool.true_and]
   ·simp [blkOf, Value.ownBlock] at hg'
    omega
theorem oper_append_at {P : Program} {w : World} {o : Oper} {a : Act} {K : Act → World → Prop} {Q : Exit → Act → World → Prop} {base size : Nat} {e : TypeId} {v : Value} {n : Nat} {xs : List Value} (s x : Operand) (t : TypeId)
 (ho : o.op = .call { callee := .builtin .append, args := #[s, x], argTypes := #[t, t] })
 (i : TypeInfo) (z : Value) (bytes : Nat) (ht : P.underlying t = some (.slice e)) (hi : P.info? e = some i) (hz : i.zero = some z)
 (hsize : i.size = size) (hby : i.bytes = bytes) (hzs : z.cells.size = size) (hzc : z.cells.toList.all noU32 = true)
 (hs : a.eval s = v) (hown : CleanN w base e size v n xs)
 (ad : Addr) (m c : Nat) (news : List Value) (hx : a.eval x = .slice (some ad) m c) (hl : news.length = m * size) (hnews : ∀ j u, news[j]? = some u → w.cell? (ad.add j) = some u) (h1 : ∀ u ∈ news, u.oneCell' = true) (hnc : news.all noU32 = true)
 (hm : 0 < m) (h63 : n + m ≤ maxLen) (hbytes : (n + m) * bytes ≤ 140737488355328) (hbase : base ≤ w.heap.size)
 (h : ∀ v' w', CleanN w' base e size v' (n + m) (xs ++ news) → w.grownBy w' v.ownBlock → (∀ g ∈ blkOf v', g ∈ blkOf v ∨ w.heap.size ≤ g) → K (a.put o.dst v') w') : Oper.wp P o a w K Q := by
 subst hsize hby
 obtain ⟨v', w', hr, h2, h3, h4⟩ := run_append_at (P := P) w base t o.type e i z ht hi hz hzs hzc v n xs hown ad m c news hl hnews h1 hnc hm h63 hbytes hbase
 unfold Oper.wp execOp
 simp only [ho, resolve, invoke, builtin, Sem.run_bind, Sem.run_pure, Result.andThen_ok, List.map_toArray, List.map_cons, List.map_nil, hs, hx, hr]
 exact h v' w' h2 h3 h4
theorem wpList_append_at {P : Program} {w : World} {ops : Array Oper} {rest : List Oper} {o : Oper} {a : Act} {Q : Exit → Act → World → Prop} {base size : Nat} {e : TypeId} {v : Value} {n : Nat} {xs : List Value} (hgd : o.guard = none) (s x : Operand) (t : TypeId)
 (ho : o.op = .call { callee := .builtin .append, args := #[s, x], argTypes := #[t, t] })
 (i : TypeInfo) (z : Value) (bytes : Nat) (ht : P.underlying t = some (.slice e)) (hi : P.info? e = some i) (hz : i.zero = some z)
 (hsize : i.size = size) (hby : i.bytes = bytes) (hzs : z.cells.size = size) (hzc : z.cells.toList.all noU32 = true)
 (hs : a.eval s = v) (hown : CleanN w base e size v n xs)
 (ad : Addr) (m c : Nat) (news : List Value) (hx : a.eval x = .slice (some ad) m c) (hl : news.length = m * size) (hnews : ∀ j u, news[j]? = some u → w.cell? (ad.add j) = some u) (h1 : ∀ u ∈ news, u.oneCell' = true) (hnc : news.all noU32 = true)
 (hm : 0 < m) (h63 : n + m ≤ maxLen) (hbytes : (n + m) * bytes ≤ 140737488355328) (hbase : base ≤ w.heap.size)
 (h : ∀ v' w', CleanN w' base e size v' (n + m) (xs ++ news) → w.grownBy w' v.ownBlock → (∀ g ∈ blkOf v', g ∈ blkOf v ∨ w.heap.size ≤ g) → wpList P ops Q rest (a.put o.dst v') w') : wpList P ops Q (o :: rest) a w :=
 wpList_plain hgd fun _ hK => oper_append_at s x t ho i z bytes ht hi hz hsize hby hzs hzc hs hown ad m c news hx hl hnews h1 hnc hm h63 hbytes hbase fun v' w' h2 h3 h4 => hK _ _ (h v' w' h2 h3 h4)
theorem CleanN.sl {w : World} {base size : Nat} {e : TypeId} {v : Value} {n : Nat} {xs : List Value} (h : CleanN w base e size v n xs) : ∃ A c, v = .slice A n c ∧ n ≤ c ∧ c ≤ maxLen ∧ (A = none → c = 0) := by
 rcases h with ⟨rfl, rfl, -⟩ | ⟨g, cap, cur, rfl, -, -, h1, h2, -⟩
 ·exact ⟨none, 0, rfl, Nat.le_refl _, Nat.zero_le _, fun _ => rfl⟩
 ·exact ⟨_, cap, rfl, h1, h2, fun h => by cases h⟩
theorem info_q : (Tryz.prog.info? 31).map (fun i => (i.zero, i.size, i.bytes)) = some (some (.agg #[.bool false, .slice none 0 0, .bool false, .slice none 0 0]), 4, 64) := by kernel_rfl
def ElV (w : World) (xs : List Value) (qs : List QV) : Prop :=
 xs.length = qs.length * 4 ∧ (∀ u ∈ xs, u.oneCell' = true) ∧ ∀ j q, qs[j]? = some q → ∃ c0 c1 c2 c3, xs[j * 4]? = some c0 ∧ xs[j * 4 + 1]? = some c1 ∧ xs[j * 4 + 2]? = some c2 ∧ xs[j * 4 + 3]? = some c3 ∧ RatV2 w (.agg #[c0, c1, c2, c3]) q
theorem ElV.nil {w : World} : ElV w [] [] := ⟨rfl, by simp, fun j q h => by simp at h⟩
theorem ElV.keep {w w' : World} {xs : List Value} {qs : List QV} (h : ElV w xs qs) (hk : Keeps w w') : ElV w' xs qs :=
 ⟨h.1, h.2.1, fun j q hj => by obtain ⟨c0, c1, c2, c3, e0, e1, e2, e3, hr⟩ := h.2.2 j q hj; exact ⟨c0, c1, c2, c3, e0, e1, e2, e3, lasts_v _ _ _ _ hk hr⟩⟩
theorem ElV.append {w : World} {xs ys : List Value} {qs rs : List QV} (h : ElV w xs qs) (g : ElV w ys rs) : ElV w (xs ++ ys) (qs ++ rs) := by
 have h1 := h.1
 refine ⟨by rw [List.length_append, List.length_append, h.1, g.1, Nat.add_mul], fun u hu => ?_, fun j p hj => ?_⟩
 ·rcases List.mem_append.1 hu with hu | hu
  ·exact h.2.1 u hu
  ·exact g.2.1 u hu
 ·by_cases hlt : j < qs.length
  ·rw [List.getElem?_append_left hlt] at hj
   obtain ⟨c0, c1, c2, c3, e0, e1, e2, e3, hr⟩ := h.2.2 j p hj
   exact ⟨c0, c1, c2, c3, by rw [List.getElem?_append_left (by omega)]; exact e0, by rw [List.getElem?_append_left (by omega)]; exact e1, by rw [List.getElem?_append_left (by omega)]; exact e2, by rw [List.getElem?_append_left (by omega)]; exact e3, hr⟩
  ·rw [List.getElem?_append_right (by omega)] at hj
   obtain ⟨c0, c1, c2, c3, e0, e1, e2, e3, hr⟩ := g.2.2 _ p hj
   refine ⟨c0, c1, c2, c3, ?_, ?_, ?_, ?_, hr⟩
   ·rw [List.getElem?_append_right (by omega), ← e0]; congr 1; omega
   ·rw [List.getElem?_append_right (by omega), ← e1]; congr 1; omega
   ·rw [List.getElem?_append_right (by omega), ← e2]; congr 1; omega
   ·rw [List.getElem?_append_right (by omega), ← e3]; congr 1; omega
theorem addr_add (b o j : Nat) : (⟨b, o, none⟩ : Addr).add j = ⟨b, o + j, none⟩ := by unfold Addr.add; split <;> simp_all
theorem Row4.elv {w : World} {A : Option Addr} {l : List QV} (h : Row4 RatV2 w A l) : ∀ k, k ≤ l.length → ∃ xs, ElV w xs (l.take k) ∧ ∀ B o, A = some ⟨B, o, none⟩ → ∀ j u, xs[j]? = some u → w.cell? ⟨B, o + j, none⟩ = some u
 | 0, _ => ⟨[], ElV.nil, fun _ _ _ j u hu => by simp at hu⟩
 | k + 1, hk => by
  obtain ⟨xs, he, hc⟩ := Row4.elv h k (by omega)
  obtain ⟨q, hq⟩ : ∃ q, l[k]? = some q := ⟨_, List.getElem?_eq_getElem (by omega)⟩
  obtain ⟨B, o, c0, c1, c2, c3, rfl, ⟨g0, g1, g2, g3⟩, hx⟩ := h k q hq
  obtain ⟨b3, A3, n3, d3, f3, B3, m3, e3, rfl, rfl, rfl, rfl⟩ := RatV2.open4 hx
  have he1 : ElV w [.bool b3, .slice A3 n3 d3, .bool f3, .slice B3 m3 e3] [q] := ⟨rfl, by simp [Value.oneCell'], fun j p hj => by
   match j, hj with
   | 0, hj =>
    obtain rfl : q = p := by simpa using hj
    exact ⟨_, _, _, _, rfl, rfl, rfl, rfl, hx⟩
   | j + 1, hj => simp at hj⟩
  have hlen : xs.length = k * 4 := by rw [he.1, List.length_take, Nat.min_eq_left (by omega)]
  refine ⟨_, by rw [List.take_add_one, hq]; exact he.append he1, fun B' o' e j u hu => ?_⟩
  obtain ⟨rfl, rfl⟩ : B = B' ∧ o = o' := by simpa using e
  by_cases hlt : j < xs.length
  ·rw [List.getElem?_append_left hlt] at hu
   exact hc B o rfl j u hu
  ·rw [List.getElem?_append_right (by omega)] at hu
   obtain ⟨i, hi⟩ : ∃ i, j - xs.length = i := ⟨_, rfl⟩
   rw [hi] at hu
   have hj : j = k * 4 + i := by omega
   subst hj
   rw [← Nat.add_assoc]
   match i, hu with
   | 0, hu => cases hu; exact g0
   | 1, hu => cases hu; exact g1
   | 2, hu => cases hu; exact g2
   | 3, hu => cases hu; exact g3
   | i + 4, hu => simp at hu
theorem own_row4 {w : World} {base : Nat} {e : TypeId} {v : Value} {xs : List Value} {qs : List QV} (h : w.ownsRow base e 4 v qs.length xs) (he : ElV w xs qs) : ∃ A c, v = .slice A qs.length c ∧ Row4 RatV2 w A qs := by
 rcases h.2 with ⟨rfl, h0⟩ | ⟨g, cap, cur, rfl, -, hg, -, -, -, ht⟩
 ·exact ⟨none, 0, by rw [h0], fun j x hj => absurd (List.getElem?_eq_some_iff.1 hj).1 (by omega)⟩
 ·refine ⟨some ⟨g, 0, none⟩, cap, rfl, fun j x hj => ?_⟩
  obtain ⟨c0, c1, c2, c3, e0, e1, e2, e3, hr⟩ := he.2.2 j x hj
  have hc : ∀ i u, xs[i]? = some u → w.cell? ⟨g, i, none⟩ = some u := fun i u hu => by
   rw [cell_of_row w g i cur e (0, 0) hg]
   rw [← ht, List.getElem?_take] at hu
   split at hu
   ·simpa using hu
   ·cases hu
  exact ⟨g, 0, c0, c1, c2, c3, rfl, ⟨by rw [Nat.zero_add]; exact hc _ _ e0, by rw [Nat.zero_add]; exact hc _ _ e1, by rw [Nat.zero_add]; exact hc _ _ e2, by rw [Nat.zero_add]; exact hc _ _ e3⟩, hr⟩
set_option maxRecDepth 100000 in
set_option maxHeartbeats 1000000 in
theorem growq_any (n : Nat) (w : World) (h0 : 0 < n) (hn : n ≤ 100000) :
 Calls Tryz.prog 106 #[.slice none 0 0, .int .i64 (n : Nat)] w fun e w' => ∃ V, e = .returned V ∧ w'.ownsRow w.heap.size 31 4 V 0 [] ∧ Keeps w w' := by
 obtain ⟨i0, hi, hz0, hz1, hz2⟩ := info_parts info_q
 have hnI : (n : Int) ≤ 100000 := by omega
 have h0I : (0 : Int) < n := by omega
 go_enter Tryz.func106, Tryz.ntmps106
 go_wp2_with (at_builtin; refine Lib.wpList_append_run w rfl _ _ 34 3 rfl (.slice none 0 0) (.int .i64 (n : Nat)) rfl rfl _ _ (Lib.run_append_nil_zeros w 34 3 _ 31 i0 (.agg #[.bool false, .slice none 0 0, .bool false, .slice none 0 0]) .i64 .i64 Tryz.underlying34 Tryz.underlying3 hi hz0 n h0 (by omega) (by omega) (by rw [hz2]; omega)) ?_)
 go_ret
 have hge := grownCap_ge w n 0 31
 have hcm := grownCap_le_maxLen w n 0 31 (by simp only [maxLen]; omega)
 refine ⟨_, rfl, ⟨rfl, .inr ⟨w.heap.size, _, _, rfl, Nat.le_refl _, heap_alloc_new w _, Nat.zero_le _, hcm, ?_, ?_⟩⟩, Below.drew (bl.alloc (Nat.le_refl _) _)⟩
 ·simp only [Array.size_append, size_zeroCells]
  show n * 4 + (grownCap w n 0 31 - n) * 4 = grownCap w n 0 31 * 4
  omega
 ·simp
theorem wpList_append_q {P : Program} {w : World} {ops : Array Oper} {rest : List Oper} {o : Oper} {a : Act} {Q : Exit → Act → World → Prop} (hgd : o.guard = none) (s x : Operand) (t : TypeId)
 (ho : o.op = .call { callee := .builtin .append, args := #[s, x], argTypes := #[t, t] })
 (base : Nat) (e : TypeId) (i : TypeInfo) (z : Value) (bytes : Nat) (ht : P.underlying t = some (.slice e)) (hi : P.info? e = some i) (hz : i.zero = some z)
 (hsize : i.size = 4) (hby : i.bytes = bytes) (hzs : z.cells.size = 4)
 (v : Value) (n : Nat) (xs : List Value) (hs : a.eval s = v) (hown : w.ownsRow base e 4 v n xs)
 (A : Option Addr) (c : Nat) (l : List QV) (hx : a.eval x = .slice A l.length c) (hA : A = none → c = 0) {w0 : World} (hk0 : Keeps w0 w) (hr : Row4 RatV2 w0 A l)
 (h63 : n + l.length ≤ maxLen) (hbytes : (n + l.length) * bytes ≤ 140737488355328) (hbase : base ≤ w.heap.size)
 (h : ∀ v' w' ys, w'.ownsRow base e 4 v' (n + l.length) (xs ++ ys) → ElV w0 ys l → w.grownBy w' v.ownBlock → wpList P ops Q rest (a.put o.dst v') w') : wpList P ops Q (o :: rest) a w := by
 rcases A with _ | ad
 ·obtain rfl := hA rfl
  have hl : l = [] := by
   cases l with
   | nil => rfl
   | cons q l => obtain ⟨B, o, c0, c1, c2, c3, e, -⟩ := hr 0 q rfl; cases e
  subst hl
  exact wpList_append_own_none hgd s x t ho base e i 4 ht hi v n xs hs hown hx (h v w [] (by simpa using hown) ElV.nil ⟨rfl, rfl, rfl, Nat.le_refl _, fun _ _ _ => rfl⟩)
 ·obtain ⟨ys, he, hc⟩ := hr.elv l.length (Nat.le_refl _)
  rw [List.take_length] at he
  refine wpList_append_own w hgd s x t ho base e i z 4 bytes ht hi hz hsize hby hzs (by omega) v n xs hs hown ad l.length c ys hx he.1 (fun j u hu => ?_) he.2.1 h63 hbytes hbase (fun v' w' h2 h3 _ => h v' w' ys h2 he h3)
  by_cases h0 : l.length = 0
  ·have : ys = [] := List.eq_nil_of_length_eq_zero (by rw [he.1, h0])
   subst this
   simp at hu
  ·obtain ⟨q, hq⟩ : ∃ q, l[0]? = some q := ⟨_, List.getElem?_eq_getElem (by omega)⟩
   obtain ⟨B, o, c0, c1, c2, c3, e, -⟩ := hr 0 q hq
   cases e
   rw [addr_add]
   exact cell_keep (hc B o rfl j u hu) hk0
def RowsQ (w : World) (b : Nat) (rows : List (List QV)) : Prop :=
 ∀ j l, rows[j]? = some l → ∃ A c, w.cell? ⟨b, j, none⟩ = some (.slice A l.length c) ∧ Row4 RatV2 w A l ∧ (A = none → c = 0)
theorem RowsQ.below {w w' : World} {b : Nat} {rows : List (List QV)} (h : RowsQ w b rows) (hb : b < w.heap.size) (hk : Keeps w w') : RowsQ w' b rows := fun j xs hj => by
 obtain ⟨A, c, h1, h2, h3⟩ := h j xs hj
 exact ⟨A, c, (hk.cell (p := ⟨b, j, none⟩) hb).trans h1, h2.below lasts_v hk, h3⟩
theorem flatq_succ {rows : List (List QV)} {k : Nat} {xs : List QV} (h : rows[k]? = some xs) : (rows.take (k + 1)).flatten = (rows.take k).flatten ++ xs := by
 obtain ⟨hlt, rfl⟩ := List.getElem?_eq_some_iff.1 h
 rw [List.take_succ_eq_append_getElem hlt, List.flatten_append]
 simp
theorem flatq_le (rows : List (List QV)) (k : Nat) : (rows.take k).flatten.length ≤ rows.flatten.length := by
 conv => rhs; rw [← List.take_append_drop k rows, List.flatten_append, List.length_append]
 omega
def CatP (w : World) (l : List QV) (e : Ending) (w' : World) : Prop := ∃ A c, e = .returned (.slice A l.length c) ∧ Row4 RatV2 w' A l ∧ Keeps w w'
set_option maxRecDepth 100000 in
set_option maxHeartbeats 1000000 in
theorem concatq_any {w : World} {b c : Nat} {rows : List (List QV)} (h : RowsQ w b rows) (hb : b < w.heap.size) (hl : rows.length ≤ 1000) (h0 : 0 < rows.flatten.length) (hs : rows.flatten.length ≤ 100000) :
 Calls Tryz.prog 62 #[.slice (some ⟨b, 0, none⟩) rows.length c] w (CatP w rows.flatten) := by
 obtain ⟨i0, hi, hz0, hz1, hz2⟩ := info_parts info_q
 have hlI : (rows.length : Int) ≤ 1000 := by omega
 have HA := Lib.hid h
 have HFL := fun k => Lib.hid (flatq_le rows k)
 have HALL : Hid ((rows.take rows.length).flatten = rows.flatten) := Lib.hid (by rw [List.take_length])
 clear h
 go_enter Tryz.func62, Tryz.ntmps62
 go_wp2
 go_loop [11, 3] (fun i s => ∃ k : Nat, k ≤ rows.length ∧ i = .int .i64 (k : Nat) ∧ s = .int .i64 ((rows.take k).flatten.length : Nat)) (fun i _ => rows.length - (intOf i).toNat)
 case atStart => exact ⟨0, Nat.zero_le _, rfl, by simp⟩
 case round =>
  obtain ⟨k, hk, rfl, rfl⟩ := hrel
  by_cases hlt : k < rows.length
  ·have hkI : (k : Int) < rows.length := by omega
   obtain ⟨A, cc, c1, -, -⟩ := HA.out k rows[k] (List.getElem?_eq_getElem hlt)
   have HS : Hid ((rows.take (k + 1)).flatten.length = (rows.take k).flatten.length + rows[k].length) := Lib.hid (by rw [flatq_succ (List.getElem?_eq_getElem hlt), List.length_append])
   have h1 := (HFL k).out
   have h2 := (HFL (k + 1)).out
   rw [HS.out] at h2
   generalize rows[k].length = m at *
   generalize (rows.take k).flatten.length = n at *
   have hnI : (n : Int) ≤ 10000000 := by omega
   have hmI : (n : Int) + m ≤ 10000000 := by omega
   clear h1 h2
   go_wp2
   go_round
   case rel => exact ⟨k + 1, by omega, by go_num, by rw [HS.out]; go_num⟩
   case measure => simp [intOf]; omega
  ·obtain rfl : k = rows.length := by omega
   rw [HALL.out]
   obtain ⟨n, hn⟩ : ∃ n, rows.flatten.length = n := ⟨_, rfl⟩
   rw [hn] at h0 hs ⊢
   have HG := Lib.hid (growq_any n w h0 (by omega))
   have HN := Lib.hid hn
   clear hn
   go_wp2_with fail
   refine HG.out.mono ?_
   rintro e w1 ⟨V, rfl, hown, hk1⟩
   have hbw := hk1.size
   have hownV := hown
   clear hown
   go_wp2
   go_loopw [27, 6] (fun i v wr => ∃ k V xs, k ≤ rows.length ∧ i = .int .i64 (k : Nat) ∧ v = V ∧ Hid (wr.ownsRow w.heap.size 31 4 V (rows.take k).flatten.length xs) ∧ Hid (ElV w xs (rows.take k).flatten) ∧ Keeps w wr) (fun i _ _ => rows.length - (intOf i).toNat)
   case atStart => exact ⟨0, V, [], Nat.zero_le _, rfl, rfl, Lib.hid hownV, Lib.hid ElV.nil, hk1⟩
   case round =>
    obtain ⟨k, V, xs, hk, rfl, rfl, HOWN, HEL, hkw⟩ := hrel
    by_cases hlt : k < rows.length
    ·have hkI : (k : Int) < rows.length := by omega
     obtain ⟨A, cc, c1, -, hA⟩ := (HA.out.below hb hkw) k rows[k] (List.getElem?_eq_getElem hlt)
     obtain ⟨A0, cc0, c0, hrow, -⟩ := HA.out k rows[k] (List.getElem?_eq_getElem hlt)
     have hce := (hkw.cell (p := ⟨b, k, none⟩) hb).trans c0
     rw [c1] at hce
     cases hce
     have HS : Hid ((rows.take (k + 1)).flatten = (rows.take k).flatten ++ rows[k]) := Lib.hid (by rw [flatq_succ (List.getElem?_eq_getElem hlt)])
     have h1 := (HFL k).out
     have h2 := (HFL (k + 1)).out
     rw [HS.out, List.length_append] at h2
     have hnn := HN.out
     generalize rows[k] = ys at *
     generalize (rows.take k).flatten = out at *
     have HR0 := Lib.hid hrow
     have hl63 : out.length + ys.length ≤ 100000 := by omega
     clear hrow h1 h2 hnn c0
     go_wp2_with (at_builtin; refine wpList_append_q rfl _ _ 34 rfl w.heap.size 31 i0 _ 64 Tryz.underlying34 hi hz0 hz1 hz2 rfl _ _ _ rfl HOWN.out A cc ys rfl hA hkw HR0.out (by simp only [maxLen]; omega) (by omega) hkw.size ?_; intro v' w3 zs hown3 hel3 hgrow)
     have hk3 : Keeps w w3 := hkw.grown hgrow hkw.size (fun b e => (HOWN.out.lt b e).1)
     go_roundw
     case rel => exact ⟨k + 1, _, xs ++ zs, by omega, by go_num, rfl, Lib.hid (by rw [HS.out, List.length_append]; exact hown3), Lib.hid (by rw [HS.out]; exact HEL.out.append hel3), hk3⟩
     case measure => simp [intOf]; omega
    ·obtain rfl : k = rows.length := by omega
     rw [HALL.out] at HOWN HEL
     obtain ⟨A9, c9, rfl, hr9⟩ := own_row4 HOWN.out (HEL.out.keep hkw)
     have HR9 := Lib.hid hr9
     clear hr9
     go_wp2
     go_ret
     exact ⟨_, _, rfl, HR9.out, hkw⟩
def SaysL (P : Program) (F : FuncId) (p : QV → Bool) (l : List QV) (w : World) : Prop := ∀ u, Keeps w u → ∀ V x, x ∈ l → RatV2 u V x → Calls P F #[V] u fun e u' => e = .returned (.bool (p x)) ∧ Keeps u u'
set_option maxRecDepth 100000 in
theorem formed1_any (w : World) {l : List QV} (hz : ∀ x ∈ l, szR x.1 ≤ 1000) : SaysL Tryz.prog 63 (fun x => decide (1 < x.1)) l w := fun u _ V x hxl hx => by
 have hzx := hz x hxl
 obtain ⟨q, vb⟩ := x
 have hx2 : RatV u V q vb := hx
 obtain ⟨n1, xs, n2, ys, ⟨a0, a1, a2, a3, rfl, -⟩, -⟩ := hx
 obtain ⟨b3, A3, n3, c3, d3, B3, m3, e3, rfl, rfl, rfl, rfl⟩ := RatV2.open4 (x := (q, vb)) hx2
 have S := ((St.start u).addR hx2.num).alloc 31 [.bool b3, .slice A3 n3 c3, .bool d3, .slice B3 m3 e3]
 obtain ⟨W0, hW0, S⟩ := S.pack
 simp only at hzx
 have z1 : szR ((1 : Int) : Rat) ≤ 1 := by decide +kernel
 have HP : Hid (∀ s, cmpR q (((1 : Int) : Rat)) = s → decide (1 < q) = decide (0 < s)) := Lib.hid fun s h => by rw [← h]; exact decide_eq_decide.2 (cmpR_pos q ((1 : Int) : Rat)).symm
 clear hx2
 show Calls Tryz.prog 63 #[.agg #[.bool b3, .slice A3 n3 c3, .bool d3, .slice B3 m3 e3]] u _
 go_enter Tryz.func63, Tryz.ntmps63
 have y0 := szR_int 1
 obtain ⟨s1, hs1⟩ : ∃ s, cmpR q (((1 : Int) : Rat)) = s := ⟨_, rfl⟩
 have HS1 := Lib.hid hs1
 clear hs1
 go_upto_region 1 with fail
 refine wp_region_steps (m := 3) rfl (by kernel_rfl) (fun iF vF wF => (List.getD [ve (.agg #[.bool b3, .slice A3 n3 c3, .bool d3, .slice B3 m3 e3]), fun vF wF => RatRep wF vF (((1 : Int) : Rat)), ve (.int .i64 s1)] iF (fun _ _ => True)) vF wF) [] ?_ ?_ ?_
 ·intro i v w w' _ h hk
  refine stabL_get ?_ i v w w' h hk
  exact stab_cons st_e (stab_cons st_q (stab_cons st_e stab_nil))
 ·intro i hi vs w3 hk3 hd
  have S3 := S.drew.below hk3
  obtain ⟨a0, a1, a2, a3⟩ := S3.cc4 0 rfl
  match i, hi with
  | 0, _ =>
   refine sv0 [] (ve (.agg #[.bool b3, .slice A3 n3 c3, .bool d3, .slice B3 m3 e3])) rfl fun K hK => ?_; clear hd; simp only [frD] at hK ⊢; go_simp
   exact hK _ _ bl rfl
  | 1, _ =>
   refine sc (A := #[.int .i64 1]) (B := #[.int .i64 1]) [] (fun vF wF => RatRep wF vF (((1 : Int) : Rat))) rfl (wanted_none rfl) rfl Tryz.func14 ?_
   refine ((lwhole_num 1 (by omega) (by omega))).mono ?_; rintro e w4 ⟨U, rfl, hr, hk4⟩; exact ⟨_, rfl, hk4, hr⟩
  | 2, _ =>
   have qe0 : (vs 0) = .agg #[.bool b3, .slice A3 n3 c3, .bool d3, .slice B3 m3 e3] := hdk hd 0; have h1 : RatRep w3 (vs 1) (((1 : Int) : Rat)) := hdk hd 1
   refine sc (A := #[(vs 0), (vs 1)]) (B := #[.agg #[.bool b3, .slice A3 n3 c3, .bool d3, .slice B3 m3 e3], (vs 1)]) [(0, some 3), (1, some 4)] (ve (.int .i64 s1)) rfl (wanted_none rfl) (by rw [qe0]) Tryz.func18 ?_
   refine ((gcompare_s (S3.ri 0 rfl) (h1.num (by omega)) (by omega) HS1.out)).mono ?_; rintro e w4 ⟨rfl, hk4⟩; exact ⟨_, rfl, hk4, rfl⟩
  | i + 3, hi => exact absurd hi (by omega)
 ·intro vs W21 hk3 hΦ _
  simp only [List.drop_succ_cons, List.drop_zero]
  rw [fr_frD, show (List.range 3).map _ = [(0, some 3), (1, some 4), (2, some 5)] by kernel_rfl]
  have pd0 : (vs 0) = .agg #[.bool b3, .slice A3 n3 c3, .bool d3, .slice B3 m3 e3] := hΦ 0 (by decide)
  have pd1 : RatRep W21 (vs 1) (((1 : Int) : Rat)) := hΦ 1 (by decide)
  have pd2 : (vs 2) = .int .i64 s1 := hΦ 2 (by decide)
  clear hΦ
  simp only [frD, pd0, pd2]
  simp only [Act.put, List.setIfInBounds_toArray, List.set_cons_zero, List.set_cons_succ]
  clear pd0 pd2
  generalize vs 1 = Upd1 at pd1 ⊢
  replace S := S.drew.below hk3
  clear pd1
  clear hk3
  go_wp2
  go_ret
  exact ⟨by rw [HP.out _ HS1.out]; rfl, S.k⟩
set_option maxRecDepth 100000 in
set_option maxHeartbeats 1000000 in
theorem fm1_i {w : World} {A : Option Addr} {n c : Nat} {l : List QV} (hr : Row4 RatV2 w A l) (hn : l.length = n) (hl : n ≤ maxLen) (p : QV → Bool) (hp : SaysL Tryz.prog 63 p l w) :
 Calls Tryz.prog 84 #[.slice A n c, .func (.func 63) #[] #[]] w fun e w' => ∃ v : Int, e = .returned (.int .i64 v) ∧ decide (0 ≤ v) = l.any p ∧ Keeps w w' := by
 have hnI : (n : Int) ≤ 9223372036854775807 := by simp only [maxLen] at hl; omega
 have HP : Hid (SaysL Tryz.prog 63 p l w) := Lib.hid hp
 have HR := Lib.hid hr
 have HN := Lib.hid hn
 clear hr hp hn hl
 go_enter Tryz.func84, Tryz.ntmps84
 go_wp2
 go_loopw [8] (fun i wr => ∃ k : Nat, k ≤ n ∧ i = .int .i64 (k : Nat) ∧ Hid ((l.take k).any p = false) ∧ Keeps w wr) (fun i _ => n - (intOf i).toNat)
 case atStart => exact ⟨0, Nat.zero_le _, rfl, Lib.hid (by simp), Below.refl _ _⟩
 case round =>
  obtain ⟨k, hkd, rfl, HA, hk⟩ := hrel
  by_cases hlt : k < n
  ·have hkI : (k : Int) < (n : Int) := by omega
   have t1 : decide ((k : Int) < (n : Int)) = true := decide_eq_true hkI
   obtain ⟨x, hq⟩ : ∃ x, l[k]? = some x := ⟨_, List.getElem?_eq_getElem (by rw [HN.out]; exact hlt)⟩
   obtain ⟨B, o, x0, x1, x2, x3, rfl, hc, hx⟩ := HR.out.get lasts_v hq
   obtain ⟨b3, A3, n3, c3, d3, B3, m3, e3, rfl, rfl, rfl, rfl⟩ := (hx w bl).open4
   have HX := Lib.hid (HP.out wr hk _ x (List.mem_of_getElem? hq) (hx wr hk))
   have HY : Hid (p x = true → l.any p = true) := Lib.hid fun h => List.any_eq_true.2 ⟨x, List.mem_of_getElem? hq, h⟩
   have HZ : Hid (p x = false → (l.take (k + 1)).any p = false) := Lib.hid fun h => by rw [List.take_add_one, List.any_append, HA.out, hq]; simpa using h
   obtain ⟨g0, g1, g2, g3⟩ := hc wr hk
   clear hc hx hq
   go_wp2_with fail
   refine HX.out.mono ?_
   rintro e w1 ⟨rfl, hk1⟩
   cases hpx : p x with
   | true =>
    have HT := Lib.hid (HY.out hpx)
    clear hpx
    go_wp2
    go_ret
    exact ⟨_, rfl, by rw [HT.out]; simp, hk.trans' hk1⟩
   | false =>
    have HT := Lib.hid (HZ.out hpx)
    clear hpx
    go_wp2
    go_roundw
    case rel => exact ⟨k + 1, by omega, by go_num, HT, hk.trans' hk1⟩
    case measure => simp [intOf]; omega
  ·have hkI : ¬ (k : Int) < (n : Int) := by omega
   have t1 : decide ((k : Int) < (n : Int)) = false := decide_eq_false hkI
   obtain rfl : k = n := by omega
   go_wp2
   go_ret
   exact ⟨_, rfl, by have := HA.out; rw [List.take_of_length_le (by rw [HN.out]; exact Nat.le_refl _)] at this; rw [this]; rfl, hk⟩
set_option maxRecDepth 100000 in
theorem fm1_c {w : World} {A : Option Addr} {n c : Nat} {l : List QV} (hr : Row4 RatV2 w A l) (hn : l.length = n) (hl : n ≤ maxLen) (p : QV → Bool) (hp : SaysL Tryz.prog 63 p l w) :
 Calls Tryz.prog 39 #[.slice A n c, .func (.func 63) #[] #[]] w fun e w' => e = .returned (.bool (l.any p)) ∧ Keeps w w' := by
 have HI := Lib.hid (fm1_i (c := c) hr hn hl p hp)
 clear hr hp hn
 go_enter Tryz.func39, Tryz.ntmps39
 go_wp2_with fail
 refine HI.out.mono ?_
 rintro e w1 ⟨v, rfl, hv, hk⟩
 have HV := Lib.hid hv
 clear hv
 go_wp2
 all_goals (go_ret; exact ⟨by rw [← HV.out]; rfl, hk⟩)
end Go.Proofs.YtgcigdahjabimaaGreatDoor
