/- Moving all points changes no error, plainly. No program in sight. Rows of structs that no group of digits lies in: append keeps them so. No program in sight. fiducialref02.Brief and Short: the walks. Three fractions as one element of a row, and rows beside each other. -/
import Derived.Test.YtgcigdahjabimaaGreatDoorPk47
import Derived.Test.YtgcigdahjabimaaGreatDoorPk34
import Derived.Deep.AppendLies
import Derived.Test.YtgcigdahjabimaaGreatDoorPk44
import Derived.Test.YtgcigdahjabimaaGreatDoorPk33
import Derived.Test.YtgcigdahjabimaaGreatDoorPk46
namespace Go.Proofs.YtgcigdahjabimaaGreatDoor
def bK (b0 b1 b2 : Int) (j : Nat) : Int := if j % 3 = 0 then b0 else if j % 3 = 1 then b1 else b2
def mvS (sp : List Int) (b0 b1 b2 : Int) (k : Nat) : List Int := (List.range (3 * k)).map fun j => sp.getD j 0 + bK b0 b1 b2 j
def mvF (fl : List QV) (b0 b1 b2 : Int) (k : Nat) : List QV := (List.range (3 * k)).map fun j => (fq fl j + ((bK b0 b1 b2 j : Int) : Rat), true)
section
variable {fl : List QV} {sp : List Int} {b0 b1 b2 : Int}
theorem bK0 (k : Nat) : bK b0 b1 b2 (3 * k) = b0 := by unfold bK; rw [if_pos (by omega)]
theorem bK1 (k : Nat) : bK b0 b1 b2 (3 * k + 1) = b1 := by unfold bK; rw [if_neg (by omega), if_pos (by omega)]
theorem bK2 (k : Nat) : bK b0 b1 b2 (3 * k + 2) = b2 := by unfold bK; rw [if_neg (by omega), if_neg (by omega)]
theorem range3 (k : Nat) : List.range (3 * (k + 1)) = List.range (3 * k) ++ [3 * k, 3 * k + 1, 3 * k + 2] := by
 rw [show 3 * (k + 1) = 3 * k + 1 + 1 + 1 by omega, List.range_succ, List.range_succ, List.range_succ]
 simp
theorem mvS_next (k : Nat) : mvS sp b0 b1 b2 (k + 1) = mvS sp b0 b1 b2 k ++ [sp.getD (3 * k) 0 + b0, sp.getD (3 * k + 1) 0 + b1, sp.getD (3 * k + 2) 0 + b2] := by
 unfold mvS
 rw [range3, List.map_append]
 simp only [List.map_cons, List.map_nil, bK0, bK1, bK2]
theorem mvS_len (k : Nat) : (mvS sp b0 b1 b2 k).length = 3 * k := by simp [mvS]
theorem mvF_len (k : Nat) : (mvF fl b0 b1 b2 k).length = 3 * k := by simp [mvF]
theorem mvS_get {m j : Nat} (h : j < 3 * m) : (mvS sp b0 b1 b2 m).getD j 0 = sp.getD j 0 + bK b0 b1 b2 j := by
 unfold mvS
 simp [List.getD, h]
theorem mvF_get {m j : Nat} (h : j < 3 * m) : fq (mvF fl b0 b1 b2 m) j = fq fl j + ((bK b0 b1 b2 j : Int) : Rat) := by
 unfold mvF
 rw [show fq ((List.range (3 * m)).map fun j => (fq fl j + ((bK b0 b1 b2 j : Int) : Rat), true)) j = (((List.range (3 * m)).map fun j => (fq fl j + ((bK b0 b1 b2 j : Int) : Rat), true)).getD j (0, false)).1 from rfl]
 simp [List.getD, h]
theorem dK_move {m i k : Nat} (hi : i < m) (hk : k < 3) : dK (mvF fl b0 b1 b2 m) (mvS sp b0 b1 b2 m) i k = dK fl sp i k := by
 unfold dK
 rw [mvF_get (by omega), mvS_get (by omega), Rat.intCast_add]
 grind
theorem sqK_move {m i k : Nat} (hi : i < m) (hk : k < 3) : sqK (mvF fl b0 b1 b2 m) (mvS sp b0 b1 b2 m) i k = sqK fl sp i k := by
 unfold sqK
 rw [dK_move hi hk]
theorem totK_move {m k : Nat} (hk : k < 3) : ∀ n, n ≤ m → totK (mvF fl b0 b1 b2 m) (mvS sp b0 b1 b2 m) k n = totK fl sp k n
 | 0, _ => rfl
 | n + 1, h => by
  rw [totK, totK, totK_move hk n (by omega), sqK_move (by omega) hk]
theorem allK_move {m i : Nat} (hi : i < m) : ∀ k, k ≤ 3 → allK (mvF fl b0 b1 b2 m) (mvS sp b0 b1 b2 m) i k = allK fl sp i k
 | 0, _ => rfl
 | k + 1, h => by
  rw [allK, allK, allK_move hi k (by omega), sqK_move hi (by omega)]
theorem bestK_move {m : Nat} : ∀ n, n ≤ m → bestK (mvF fl b0 b1 b2 m) (mvS sp b0 b1 b2 m) n = bestK fl sp n
 | 0, _ => rfl
 | n + 1, h => by
  rw [bestK, bestK, bestK_move n (by omega), allK_move (by omega) 3 (by omega)]
theorem chkC_move {m : Nat} (h0 : m ≠ 0) (h1 : ¬ 256 < m) (hf : (mvS sp b0 b1 b2 m).any farB = false) : chkC (mvF fl b0 b1 b2 m) (mvS sp b0 b1 b2 m) m m = 0 := by
 unfold chkC
 rw [if_neg, if_neg (by simp), if_neg h0, if_neg h1, hf]
 ·rfl
 ·rw [Bool.not_eq_true, List.any_eq_false]
  intro x hx
  unfold mvF at hx
  obtain ⟨j, -, rfl⟩ := List.mem_map.1 hx
  simp
end
end Go.Proofs.YtgcigdahjabimaaGreatDoor
namespace Go.Proofs.YtgcigdahjabimaaGreatDoor
open Go.RowKit

def CleanRow (w : World) (base : Nat) (e : TypeId) (size : Nat) (v : Value) (n : Nat) (xs : List Value) : Prop :=
 ∃ g cap cur, v = .slice (some ⟨g, 0, none⟩) n cap ∧ base ≤ g ∧ w.heap[g]? = some (.cells cur e (0, 0)) ∧ n ≤ cap ∧ cap ≤ maxLen ∧ cur.size = cap * size ∧ cur.toList.take (n * size) = xs ∧ cur.toList.all noU32 = true
section
variable {w w' : World} {base : Nat} {e : TypeId} {size : Nat} {v : Value} {n : Nat} {xs : List Value}
theorem CleanRow.owns (h : CleanRow w base e size v n xs) : w.ownsRow base e size v n xs := by
 obtain ⟨g, cap, cur, rfl, hb, hg, hnc, hcm, hcs, ht, -⟩ := h
 refine ⟨?_, .inr ⟨g, cap, cur, rfl, hb, hg, hnc, hcm, hcs, ht⟩⟩
 rw [← ht, List.length_take, Array.length_toList, hcs]
 exact Nat.min_eq_left (Nat.mul_le_mul_right _ hnc)
theorem CleanRow.below (h : CleanRow w base e size v n xs) (hk : Keeps w w') : CleanRow w' base e size v n xs := by
 obtain ⟨g, cap, cur, rfl, hb, hg, hr⟩ := h
 have hlt : g < w.heap.size := (Array.getElem?_eq_some_iff.1 hg).1
 exact ⟨g, cap, cur, rfl, hb, (hk.block g hlt).trans hg, hr⟩
theorem CleanRow.lt (h : CleanRow w base e size v n xs) : ∀ g, v.ownBlock = some g → base ≤ g ∧ g < w.heap.size := by
 obtain ⟨g, cap, cur, rfl, hb, hg, -⟩ := h
 intro k hk
 obtain rfl : g = k := by simpa [Value.ownBlock] using hk
 exact ⟨hb, (Array.getElem?_eq_some_iff.1 hg).1⟩
theorem CleanRow.same (h : CleanRow w base e size v n xs) (hg : w.grownBy w' v.ownBlock) : Same32 w w' := by
 obtain ⟨g, cap, cur, rfl, -, hh, -, -, -, -, hall⟩ := h
 rintro u ys ⟨A, c, rfl, h1, h2, h0, hrow⟩
 refine ⟨A, c, rfl, h1, h2, h0, fun hn => ?_⟩
 obtain ⟨b, o, rfl, hlt, hc⟩ := hrow hn
 have hne : some b ≠ Value.ownBlock (.slice (some ⟨g, 0, none⟩) n cap) := by
  intro e2
  obtain rfl : b = g := by simpa [Value.ownBlock] using e2
  have hc0 := hc 0 hn
  rw [cell_of_row w b (o + 0) cur _ _ hh] at hc0
  have hm : u32 ys 0 ∈ cur.toList := by
   rw [← Array.getElem?_toList] at hc0
   exact List.mem_of_getElem? hc0
  have := List.all_eq_true.1 hall _ hm
  simp [u32, noU32] at this
 exact ⟨b, o, rfl, Nat.lt_of_lt_of_le hlt hg.size, fun j hj => hg.cell (hc j hj) hne⟩
theorem zero_clean {z : Array Value} (hz : z.toList.all noU32 = true) (k : Nat) : (Builtin.zeroCells z k).toList.all noU32 = true := by
 rw [List.all_eq_true]
 intro x hx
 unfold Builtin.zeroCells at hx
 simp only [Array.toList_map, List.mem_map] at hx
 obtain ⟨i, hi, rfl⟩ := hx
 have hi : i < k * z.size := by simpa using hi
 have hp : 0 < z.size := Nat.pos_of_ne_zero fun h => by rw [h] at hi; simp at hi
 have hlt : i % z.size < z.size := Nat.mod_lt _ hp
 rw [getElem!_pos z _ hlt]
 exact List.all_eq_true.1 hz _ (Array.getElem_mem_toList hlt)
end
theorem run_append_clean {P : Program} (w : World) (base : Nat) (t ty e : TypeId) (i : TypeInfo) (z : Value) (ht : P.underlying t = some (.slice e)) (hi : P.info? e = some i) (hz : i.zero = some z)
 (hzs : z.cells.size = i.size) (hzc : z.cells.toList.all noU32 = true) (v : Value) (n : Nat) (xs : List Value) (hown : CleanRow w base e i.size v n xs)
 (a : Addr) (m c : Nat) (news : List Value) (hl : news.length = m * i.size) (hnews : ∀ j u, news[j]? = some u → w.cell? (a.add j) = some u) (h1 : ∀ u ∈ news, u.oneCell' = true) (hnc : news.all noU32 = true)
 (h63 : n + m ≤ maxLen) (hbytes : (n + m) * i.bytes ≤ 140737488355328) (hbase : base ≤ w.heap.size) :
 ∃ v' w', (Builtin.append_ #[t, t] ty #[v, .slice (some a) m c]).run P w = .ok v' w' ∧ CleanRow w' base e i.size v' (n + m) (xs ++ news) ∧ w.grownBy w' v.ownBlock := by
 have ho := hown.owns
 have hsmall : n + m ≤ 9223372036854775807 := by simp only [maxLen] at h63; omega
 have hlen : (xs ++ news).length = (n + m) * i.size := by rw [List.length_append, ho.1, hl, Nat.add_mul]
 obtain ⟨g, cap, cur, rfl, hbg, hg, hnc2, hcm, hcs, htake, hall⟩ := hown
 have hxall : xs.all noU32 = true := by
  rw [List.all_eq_true] at hall ⊢
  intro x hx
  rw [← htake] at hx
  exact hall x (List.mem_of_mem_take hx)
 by_cases hroom : n + m ≤ cap
 ·have hfit : n * i.size + news.length ≤ cur.size := by rw [hl, hcs, ← Nat.add_mul]; exact Nat.mul_le_mul_right _ hroom
  have hr := run_append_room (P := P) w t ty e i ht hi g n cap cur hg a m c news hl hnews h1 hroom hfit
  refine ⟨_, _, hr, ⟨g, cap, _, rfl, hbg, setRow_heap w g cur _ e _ hg, hroom, hcm, ?_, ?_, ?_⟩, ⟨rfl, rfl, rfl, by simp, fun k _ hk => setRow_other w g k _ (fun e => hk (by simp [Value.ownBlock, e]))⟩⟩
  ·simp only [List.size_toArray, List.length_append, List.length_take, List.length_drop, Array.length_toList]
   omega
  ·rw [htake, ← hlen]
   exact List.take_left
  ·rw [htake]
   simp only [List.all_append, hxall, hnc, Bool.true_and]
   rw [List.all_eq_true] at hall ⊢
   intro x hx
   exact hall x (List.mem_of_mem_drop hx)
 ·have holds : ∀ j u, xs[j]? = some u → w.cell? ((⟨g, 0, none⟩ : Addr).add j) = some u := ho.cells (g := g) rfl
  have hr := run_append_grow (P := P) w t ty e i z ht hi hz ⟨g, 0, none⟩ n cap xs ho.1 holds a m c news hl hnews (by omega) (by omega) (growslice_fits (by omega) hbytes)
  have hge := grownCap_ge w (n + m) cap e
  refine ⟨_, _, hr, ⟨w.heap.size, _, _, rfl, hbase, heap_alloc_new w.drew _, hge, grownCap_le_maxLen w (n + m) cap e h63, ?_, ?_, ?_⟩, ⟨rfl, rfl, rfl, by simp, fun k hk _ => heap_alloc_old w.drew _ hk⟩⟩
  ·simp only [Array.size_append, List.size_toArray, size_zeroCells, hzs, ho.1, hl, ← Nat.add_mul]
   congr 1
   omega
  ·simp only [Array.toList_append, List.append_assoc]
   rw [← List.append_assoc, ← hlen]
   exact List.take_left
  ·simp only [Array.toList_append, List.all_append, hxall, hnc, zero_clean hzc, Bool.true_and]
theorem wpList_append_clean {P : Program} {w : World} {ops : Array Oper} {rest : List Oper} {o : Oper} {a : Act} {Q : Exit → Act → World → Prop} (hgd : o.guard = none) (s x : Operand) (t : TypeId)
 (ho : o.op = .call { callee := .builtin .append, args := #[s, x], argTypes := #[t, t] })
 (base : Nat) (e : TypeId) (i : TypeInfo) (z : Value) (size bytes : Nat) (ht : P.underlying t = some (.slice e)) (hi : P.info? e = some i) (hz : i.zero = some z)
 (hsize : i.size = size) (hby : i.bytes = bytes) (hzs : z.cells.size = size) (hzc : z.cells.toList.all noU32 = true)
 (v : Value) (n : Nat) (xs : List Value) (hs : a.eval s = v) (hown : CleanRow w base e size v n xs)
 (ad : Addr) (m c : Nat) (news : List Value) (hx : a.eval x = .slice (some ad) m c) (hl : news.length = m * size) (hnews : ∀ j u, news[j]? = some u → w.cell? (ad.add j) = some u) (h1 : ∀ u ∈ news, u.oneCell' = true) (hnc : news.all noU32 = true)
 (h63 : n + m ≤ maxLen) (hbytes : (n + m) * bytes ≤ 140737488355328) (hbase : base ≤ w.heap.size)
 (h : ∀ v' w', CleanRow w' base e size v' (n + m) (xs ++ news) → w.grownBy w' v.ownBlock → wpList P ops Q rest (a.put o.dst v') w') : wpList P ops Q (o :: rest) a w := by
 subst hsize hby
 obtain ⟨v', w', hr, h2, h3⟩ := run_append_clean (P := P) w base t o.type e i z ht hi hz hzs hzc v n xs hown ad m c news hl hnews h1 hnc h63 hbytes hbase
 refine wpList_plain hgd fun K hK => ?_
 unfold Oper.wp execOp
 simp only [ho, resolve, invoke, builtin, Sem.run_bind, Sem.run_pure, Result.andThen_ok, List.map_toArray, List.map_cons, List.map_nil, hs, hx, hr]
 exact hK _ _ (h v' w' h2 h3)
theorem own_cells {w : World} {b : Nat} {t : TypeId} {vs : List Value} (h : Own w b t vs) : ∀ j u, vs[j]? = some u → w.cell? ((⟨b, 0, none⟩ : Addr).add j) = some u := fun j u hj => by
 rw [show (⟨b, 0, none⟩ : Addr).add j = ⟨b, j, none⟩ by unfold Addr.add; split <;> simp_all, h.cell]
 exact hj
def Elems (w : World) (xs : List Value) (qs : List Rat) : Prop :=
 xs.length = qs.length * 4 ∧ ∀ j q, qs[j]? = some q → ∃ c0 c1 c2 c3, xs[j * 4]? = some c0 ∧ xs[j * 4 + 1]? = some c1 ∧ xs[j * 4 + 2]? = some c2 ∧ xs[j * 4 + 3]? = some c3 ∧ RatRep w (.agg #[c0, c1, c2, c3]) q
theorem Elems.nil {w : World} : Elems w [] [] := ⟨rfl, fun j q h => by simp at h⟩
theorem Elems.map {w w' : World} {xs : List Value} {qs : List Rat} (h : Elems w xs qs) (hs : Same32 w w') : Elems w' xs qs :=
 ⟨h.1, fun j q hj => by obtain ⟨c0, c1, c2, c3, e0, e1, e2, e3, hr⟩ := h.2 j q hj; exact ⟨c0, c1, c2, c3, e0, e1, e2, e3, hr.map hs⟩⟩
end Go.Proofs.YtgcigdahjabimaaGreatDoor
namespace Go.Proofs.YtgcigdahjabimaaGreatDoor
open Go.RowKit Go.Shelf
abbrev RA := Bool × List Nat × Bool × List Nat
def RatA (w : World) (V : Value) (x : RA) : Prop := RatArg w V x.1 x.2.1 x.2.2.1 x.2.2.2 ∧ x.2.1.length ≤ 35184372088832 ∧ x.2.2.2.length ≤ 35184372088832
def raQ (x : RA) : QV := (rcnt x.1 x.2.1 x.2.2.1 x.2.2.2, rvalidB x.1 x.2.1 x.2.2.1 x.2.2.2)
def raD (x : RA) : Nat := x.2.1.length + x.2.2.2.length
theorem lasts_ra : Lasts RatA := fun _ _ _ _ hk h => ⟨h.1.map hk.same32, h.2⟩
theorem RatA.v2 {w : World} {V : Value} {x : RA} (h : RatA w V x) (hd : raD x ≤ 100000) : RatV2 w V (raQ x) := by
 unfold raD at hd
 exact ⟨_, _, _, _, h.1, rfl, rfl, by omega, by omega⟩
theorem raQ_sz (x : RA) : szR (raQ x).1 ≤ raD x + 1 := by
 have := szR_rcnt (n1 := x.1) (xs := x.2.1) (n2 := x.2.2.1) (ys := x.2.2.2)
 unfold raD raQ
 simp only
 omega
theorem Row4.v2 {w : World} {A : Option Addr} {l : List RA} (h : Row4 RatA w A l) (hd : ∀ x ∈ l, raD x ≤ 100000) : Row4 RatV2 w A (l.map raQ) := fun j x hj => by
 rw [List.getElem?_map] at hj
 obtain ⟨y, hy, rfl⟩ := Option.map_eq_some_iff.1 hj
 obtain ⟨B, o, c0, c1, c2, c3, e, hc, hx⟩ := h j y hy
 exact ⟨B, o, c0, c1, c2, c3, e, hc, hx.v2 (hd y (List.mem_of_getElem? hy))⟩
theorem RatA.open4 {w : World} {c0 c1 c2 c3 : Value} {x : RA} (h : RatA w (.agg #[c0, c1, c2, c3]) x) : ∃ A c B d, c0 = .bool x.1 ∧ c1 = .slice A x.2.1.length c ∧ c2 = .bool x.2.2.1 ∧ c3 = .slice B x.2.2.2.length d := by
 obtain ⟨A, c, B, d, e⟩ := h.1.open2
 simp only [Value.agg.injEq, Array.mk.injEq, List.cons.injEq, and_true] at e
 exact ⟨A, c, B, d, e⟩
def briefB (x : RA) : Bool := decide (x.2.1.length ≤ 1) && decide (x.2.2.2.length ≤ 1) && (decide (x.2.1.length = 0) || decide ((ix x.2.1 0 : Int) < 100000)) && (decide (x.2.2.2.length = 0) || decide ((ix x.2.2.2 0 : Int) ≤ 100))
def shB (M G : Nat) (l : List RA) : Bool := decide (l.length ≤ M) && l.all fun x => decide (raD x ≤ G) && briefB x
theorem shB_of {M G : Nat} {l : List RA} (h : shB M G l = true) : l.length ≤ M ∧ ∀ x ∈ l, raD x ≤ G := by
 unfold shB at h
 simp only [Bool.and_eq_true, decide_eq_true_eq, List.all_eq_true] at h
 exact ⟨h.1, fun x hx => (h.2 x hx).1⟩
theorem all_snocA {p : RA → Bool} {l : List RA} {k : Nat} {x : RA} (hq : l[k]? = some x) (h : (l.take k).all p = true) (hx : p x = true) : (l.take (k + 1)).all p = true := by
 rw [List.take_add_one, List.all_append, h, hq]
 simpa using hx
theorem all_notA {p : RA → Bool} {l : List RA} {k : Nat} {x : RA} (hq : l[k]? = some x) (hx : p x = false) : l.all p = false := by
 rw [List.all_eq_false]
 exact ⟨x, List.mem_of_getElem? hq, by rw [hx]; simp⟩
theorem U32.first {w : World} {A : Option Addr} {n c : Nat} {xs : List Nat} (h : U32 w (.slice A n c) xs) (hn : n = 1) : ∃ B o, A = some ⟨B, o, none⟩ ∧ ∀ W, Keeps w W → W.cell? ⟨B, o, none⟩ = some (.int .u32 (ix xs 0 : Nat)) := by
 obtain ⟨A', c', e, h1, h2, h3, h4⟩ := h
 simp only [Value.slice.injEq] at e
 obtain ⟨rfl, e2, rfl⟩ := e
 obtain ⟨b, o, rfl, hb, hc⟩ := h4 (by omega)
 refine ⟨b, o, rfl, fun W hk => ?_⟩
 have h0 := hc 0 (by omega)
 rw [Nat.add_zero] at h0
 exact cell_keep h0 hk
set_option maxRecDepth 100000 in
set_option maxHeartbeats 1000000 in
theorem gbrief_any {w : World} {V : Value} {x : RA} (h : RatA w V x) : Calls Tryz.prog 38 #[V] w fun e w' => e = .returned (.bool (briefB x)) ∧ Keeps w w' := by
 obtain ⟨n1, xs, n2, ys⟩ := x
 obtain ⟨h, l1, l2⟩ := h
 simp only at h l1 l2
 obtain ⟨A, c, B, d, rfl⟩ := h.open2
 obtain ⟨x, v, y, u, e, ⟨v1, e1, h1⟩, ⟨v2, e2, h2⟩⟩ := h
 simp only [Value.agg.injEq, Array.mk.injEq, List.cons.injEq, and_true] at e e1 e2
 obtain ⟨rfl, rfl, rfl, rfl⟩ := e
 obtain ⟨-, rfl⟩ := e1
 obtain ⟨-, rfl⟩ := e2
 have S := (St.start w).alloc 31 [.bool n1, .slice A xs.length c, .bool n2, .slice B ys.length d]
 obtain ⟨W0, hW0, S⟩ := S.pack
 have H1 := Lib.hid (fun e => U32.first h1 e)
 have H2 := Lib.hid (fun e => U32.first h2 e)
 have hb : briefB (n1, xs, n2, ys) = (decide (xs.length ≤ 1) && decide (ys.length ≤ 1) && (decide (xs.length = 0) || decide ((ix xs 0 : Int) < 100000)) && (decide (ys.length = 0) || decide ((ix ys 0 : Int) ≤ 100))) := rfl
 obtain ⟨n, hn⟩ : ∃ n, xs.length = n := ⟨_, rfl⟩
 obtain ⟨m, hm⟩ : ∃ n, ys.length = n := ⟨_, rfl⟩
 rw [hn] at H1 S hW0 ⊢
 rw [hm] at H2 S hW0 ⊢
 clear h1 h2
 rw [hn] at l1
 rw [hm] at l2
 rw [hn, hm] at hb
 have HB := Lib.hid hb
 generalize ix xs 0 = x1 at *
 generalize ix ys 0 = x2 at *
 clear hb
 clear hn hm
 have hnI : (n : Int) ≤ 35184372088832 := by omega
 have hmI : (m : Int) ≤ 35184372088832 := by omega
 go_enter Tryz.func38, Tryz.ntmps38
 go_upto_region 1 with fail
 refine wp_region_steps (m := 7) rfl (by kernel_rfl) (fun iF vF wF => (List.getD [ve (.pointer (some ⟨w.heap.size, 0, none⟩)), ve (.pointer (some ⟨w.heap.size, 1, none⟩)), ve (.slice A n c), ve (.pointer (some ⟨w.heap.size, 2, none⟩)), ve (.pointer (some ⟨w.heap.size, 3, none⟩)), ve (.slice B m d), ve (.slice A n c)] iF (fun _ _ => True)) vF wF) [] ?_ ?_ ?_
 ·intro i v w w' _ h hk
  refine stabL_get ?_ i v w w' h hk
  exact stab_cons st_e (stab_cons st_e (stab_cons st_e (stab_cons st_e (stab_cons st_e (stab_cons st_e (stab_cons st_e stab_nil))))))
 ·intro i hi vs w3 hk3 hd
  have S3 := S.drew.below hk3
  obtain ⟨a0, a1, a2, a3⟩ := S3.cc4 0 rfl
  match i, hi with
  | 0, _ =>
   refine sv0 [] (ve (.pointer (some ⟨w.heap.size, 0, none⟩))) rfl fun K hK => ?_; clear hd; simp only [frD] at hK ⊢; go_simp
   exact hK _ _ bl rfl
  | 1, _ =>
   have qe0 : (vs 0) = .pointer (some ⟨w.heap.size, 0, none⟩) := hdk hd 0
   refine sv0 [(0, some 5)] (ve (.pointer (some ⟨w.heap.size, 1, none⟩))) rfl fun K hK => ?_; clear hd; simp only [frD, qe0] at hK ⊢; go_simp
   exact hK _ _ bl rfl
  | 2, _ =>
   have qe1 : (vs 1) = .pointer (some ⟨w.heap.size, 1, none⟩) := hdk hd 1
   refine sv0 [(1, some 6)] (ve (.slice A n c)) rfl fun K hK => ?_; clear hd; simp only [frD, qe1] at hK ⊢; go_simp
   exact hK _ _ bl rfl
  | 3, _ =>
   refine sv0 [] (ve (.pointer (some ⟨w.heap.size, 2, none⟩))) rfl fun K hK => ?_; clear hd; simp only [frD] at hK ⊢; go_simp
   exact hK _ _ bl rfl
  | 4, _ =>
   have qe3 : (vs 3) = .pointer (some ⟨w.heap.size, 2, none⟩) := hdk hd 3
   refine sv0 [(3, some 8)] (ve (.pointer (some ⟨w.heap.size, 3, none⟩))) rfl fun K hK => ?_; clear hd; simp only [frD, qe3] at hK ⊢; go_simp
   exact hK _ _ bl rfl
  | 5, _ =>
   have qe4 : (vs 4) = .pointer (some ⟨w.heap.size, 3, none⟩) := hdk hd 4
   refine sv0 [(4, some 9)] (ve (.slice B m d)) rfl fun K hK => ?_; clear hd; simp only [frD, qe4] at hK ⊢; go_simp
   exact hK _ _ bl rfl
  | 6, _ =>
   have qe0 : (vs 0) = .pointer (some ⟨w.heap.size, 0, none⟩) := hdk hd 0; have qe1 : (vs 1) = .pointer (some ⟨w.heap.size, 1, none⟩) := hdk hd 1; have qe2 : (vs 2) = .slice A n c := hdk hd 2
   refine sv0 [(0, some 5), (1, some 6), (2, some 7)] (ve (.slice A n c)) rfl fun K hK => ?_; clear hd; simp only [frD, qe0, qe1, qe2] at hK ⊢; go_simp
   exact hK _ _ bl rfl
  | i + 7, hi => exact absurd hi (by omega)
 ·intro vs W21 hk3 hΦ _
  simp only [List.drop_succ_cons, List.drop_zero]
  rw [fr_frD, show (List.range 7).map _ = [(0, some 5), (1, some 6), (2, some 7), (3, some 8), (4, some 9), (5, some 10), (6, some 3)] by kernel_rfl]
  have pd0 : (vs 0) = .pointer (some ⟨w.heap.size, 0, none⟩) := hΦ 0 (by decide)
  have pd1 : (vs 1) = .pointer (some ⟨w.heap.size, 1, none⟩) := hΦ 1 (by decide)
  have pd2 : (vs 2) = .slice A n c := hΦ 2 (by decide)
  have pd3 : (vs 3) = .pointer (some ⟨w.heap.size, 2, none⟩) := hΦ 3 (by decide)
  have pd4 : (vs 4) = .pointer (some ⟨w.heap.size, 3, none⟩) := hΦ 4 (by decide)
  have pd5 : (vs 5) = .slice B m d := hΦ 5 (by decide)
  have pd6 : (vs 6) = .slice A n c := hΦ 6 (by decide)
  clear hΦ
  simp only [frD, pd0, pd1, pd2, pd3, pd4, pd5, pd6]
  simp only [Act.put, List.setIfInBounds_toArray, List.set_cons_zero, List.set_cons_succ]
  clear pd0 pd1 pd2 pd3 pd4 pd5 pd6
  replace S := S.drew.below hk3
  clear hk3
  clear hW0
  by_cases hn2 : 1 < n
  ·have t1 : decide ((1 : Int) < (n : Int)) = true := decide_eq_true (by omega)
   go_wp2
   go_ret
   exact ⟨by rw [HB.out]; rw [decide_eq_false (by omega : ¬ n ≤ 1)]; rfl, S.k⟩
  ·have t1 : decide ((1 : Int) < (n : Int)) = false := decide_eq_false (by omega)
   by_cases hm2 : 1 < m
   ·have t2 : decide ((1 : Int) < (m : Int)) = true := decide_eq_true (by omega)
    go_wp2
    go_ret
    exact ⟨by rw [HB.out]; rw [decide_eq_true (by omega : n ≤ 1), decide_eq_false (by omega : ¬ m ≤ 1)]; rfl, S.k⟩
   ·have t2 : decide ((1 : Int) < (m : Int)) = false := decide_eq_false (by omega)
    have hn01 : n = 0 ∨ n = 1 := by omega
    have hm01 : m = 0 ∨ m = 1 := by omega
    clear l1 l2 hnI hmI hn2 hm2
    rcases hn01 with rfl | rfl
    ·rcases hm01 with rfl | rfl
     ·go_wp2
      go_ret
      exact ⟨by rw [HB.out]; rfl, S.k⟩
     ·obtain ⟨B2, o2, rfl, hc2⟩ := H2.out rfl
      have g2 := hc2 _ S.k
      clear hc2
      obtain ⟨b2, hb2⟩ : ∃ b, decide ((x2 : Int) ≤ 100) = b := ⟨_, rfl⟩
      go_wp2
      go_ret
      exact ⟨by rw [HB.out]; rw [hb2]; rfl, S.k⟩
    ·obtain ⟨B1, o1, rfl, hc1⟩ := H1.out rfl
     have g1 := hc1 _ S.k
     clear hc1
     obtain ⟨b1, hb1⟩ : ∃ b, decide ((x1 : Int) < 100000) = b := ⟨_, rfl⟩
     cases b1 with
     | false =>
      go_wp2
      go_ret
      exact ⟨by rw [HB.out]; rw [hb1]; simp only [show decide ((1 : Nat) = 0) = false from rfl, Bool.or_false, Bool.and_false, Bool.false_and]; rfl, S.k⟩
     | true =>
      rcases hm01 with rfl | rfl
      ·go_wp2
       go_ret
       exact ⟨by rw [HB.out]; rw [hb1]; rfl, S.k⟩
      ·obtain ⟨B2, o2, rfl, hc2⟩ := H2.out rfl
       have g2 := hc2 _ S.k
       clear hc2
       obtain ⟨b2, hb2⟩ : ∃ b, decide ((x2 : Int) ≤ 100) = b := ⟨_, rfl⟩
       go_wp2
       go_ret
       exact ⟨by rw [HB.out]; rw [hb1, hb2]; rfl, S.k⟩
set_option maxRecDepth 100000 in
set_option maxHeartbeats 1000000 in
theorem gsh_any {w : World} {A : Option Addr} {n c : Nat} {l : List RA} (hr : Row4 RatA w A l) (hn : l.length = n) (hl : n ≤ maxLen) (M G : Nat) (hM : M ≤ 1000) (hG : G ≤ 6) :
 Calls Tryz.prog 8 #[.slice A n c, .int .i64 (M : Nat), .int .i64 (G : Nat)] w fun e w' => e = .returned (.bool (shB M G l)) ∧ Keeps w w' := by
 have HR := Lib.hid hr
 have HN := Lib.hid hn
 have hnI : (n : Int) ≤ 9223372036854775807 := by simp only [maxLen] at hl; omega
 have hMI : (M : Int) ≤ 1000 := by omega
 have hGI : (G : Int) ≤ 6 := by omega
 have tg : decide ((G : Int) ≤ 6) = true := decide_eq_true hGI
 have S := St.start w
 have HSB : Hid (shB M G l = (decide (n ≤ M) && l.all fun x => decide (raD x ≤ G) && briefB x)) := Lib.hid (by rw [← hn]; rfl)
 clear hr hn hl
 go_enter Tryz.func8, Tryz.ntmps8
 by_cases hnm : M < n
 ·have t0 : decide ((M : Int) < (n : Int)) = true := decide_eq_true (by omega)
  go_wp2
  go_ret
  exact ⟨by rw [HSB.out, decide_eq_false (by omega : ¬ n ≤ M)]; rfl, S.k⟩
 ·have t0 : decide ((M : Int) < (n : Int)) = false := decide_eq_false (by omega)
  have HM : Hid (n ≤ M) := Lib.hid (by omega)

  go_wp2
  go_loopw [7] (fun i wr => ∃ k : Nat, k ≤ n ∧ i = .int .i64 (k : Nat) ∧ Hid ((l.take k).all (fun x => decide (raD x ≤ G) && briefB x) = true) ∧ St w wr [] []) (fun i _ => n - (intOf i).toNat)
  case atStart => exact ⟨0, Nat.zero_le _, rfl, Lib.hid rfl, S⟩
  case round =>
   clear S
   obtain ⟨k, hk, rfl, HA, S⟩ := hrel
   by_cases hlt : k < n
   ·have hkI : (k : Int) < (n : Int) := by omega
    have t1 : decide ((k : Int) < (n : Int)) = true := decide_eq_true hkI
    obtain ⟨x, hq⟩ : ∃ x, l[k]? = some x := ⟨_, List.getElem?_eq_getElem (by rw [HN.out]; exact hlt)⟩
    obtain ⟨B, o, x0, x1, x2, x3, rfl, hc, hx⟩ := HR.out.get lasts_ra hq
    obtain ⟨A1, c1, B1, d1, rfl, rfl, rfl, rfl⟩ := (hx w bl).open4
    have HX := Lib.hid hx
    obtain ⟨l1, l2⟩ := (hx w bl).2
    have HS : Hid (raD x ≤ G → briefB x = true → (l.take (k + 1)).all (fun x => decide (raD x ≤ G) && briefB x) = true) := Lib.hid fun h h2 => all_snocA hq HA.out (by rw [decide_eq_true h, h2]; rfl)
    have HF : Hid (¬ (raD x ≤ G ∧ briefB x = true) → shB M G l = false) := Lib.hid fun h => by
     rw [HSB.out, all_notA hq (by
      simp only [Bool.and_eq_false_iff, decide_eq_false_iff_not]
      by_cases h3 : raD x ≤ G
      ·exact .inr (by cases h4 : briefB x <;> simp_all)
      ·exact .inl h3), Bool.and_false]
    have HC := Lib.hid hc
    obtain ⟨y1, y2, y3, y4⟩ := x
    simp only at HC HX l1 l2
    obtain ⟨nx, hnx⟩ : ∃ n, y2.length = n := ⟨_, rfl⟩
    obtain ⟨mx, hmx⟩ : ∃ n, y4.length = n := ⟨_, rfl⟩
    have HD : Hid (raD (y1, y2, y3, y4) = nx + mx) := Lib.hid (by unfold raD; rw [← hnx, ← hmx])
    rw [hnx] at HC HX l1
    rw [hmx] at HC HX l2
    obtain ⟨g0, g1, g2, g3⟩ := HC.out wr S.k
    have hnxI : (nx : Int) ≤ 35184372088832 := by omega
    have hmxI : (mx : Int) ≤ 35184372088832 := by omega
    clear hc hx hq hnx hmx
    go_wp2_with fail
    refine (rdigs_any l1 l2).mono ?_
    rintro e W2 ⟨rfl, hk2⟩
    replace S := S.below hk2
    clear hk2 g0 g1 g2 g3
    by_cases hgt : G < nx + mx
    ·have t2 : decide ((G : Int) < (nx : Int) + (mx : Int)) = true := decide_eq_true (by omega)

     have HE := Lib.hid (HF.out fun h => absurd h.1 (by rw [HD.out]; omega))
     go_wp2
     go_ret
     exact ⟨by rw [HE.out]; rfl, S.k⟩
    ·have t2 : decide ((G : Int) < (nx : Int) + (mx : Int)) = false := decide_eq_false (by omega)
     have HN2 := Lib.hid (HS.out (by rw [HD.out]; omega))
     obtain ⟨bb, hbb⟩ : ∃ b, briefB (y1, y2, y3, y4) = b := ⟨_, rfl⟩
     have HBR := Lib.hid (gbrief_any (HX.out _ S.k))
     rw [hbb] at HBR HN2 HF
     clear hbb
     obtain ⟨g0, g1, g2, g3⟩ := HC.out _ S.k

     go_wp2_with fail
     refine HBR.out.mono ?_
     rintro e W3 ⟨rfl, hk3⟩
     replace S := S.below hk3
     clear hk3 g0 g1 g2 g3
     cases bb with
     | false =>
      have HE := Lib.hid (HF.out fun h => by cases h.2)
      go_wp2
      go_ret
      exact ⟨by rw [HE.out]; rfl, S.k⟩
     | true =>
      have HN3 := Lib.hid (HN2.out rfl)
      go_wp2
      go_roundw
      case rel => exact ⟨k + 1, by omega, by go_num, HN3, S⟩
      case measure => simp [intOf]; omega
   ·have hkI : ¬ (k : Int) < (n : Int) := by omega
    have t1 : decide ((k : Int) < (n : Int)) = false := decide_eq_false hkI
    obtain rfl : k = n := by omega
    have HE : Hid (l.all (fun x => decide (raD x ≤ G) && briefB x) = true) := Lib.hid (by have := HA.out; rwa [List.take_of_length_le (by rw [HN.out]; exact Nat.le_refl _)] at this)
    go_wp2
    go_ret
    exact ⟨by rw [HSB.out, HE.out, decide_eq_true HM.out]; rfl, S.k⟩
theorem RatRep.rn {w : World} {V : Value} {q : Rat} (h : RatRep w V q) : ∃ r : Rn, V = r.v := by
 obtain ⟨b, A, n, c, d, B, m, e, rfl⟩ := h.open_
 exact ⟨⟨b, A, n, c, d, B, m, e⟩, rfl⟩
def Tri (w : World) (v : Value) (x y z : Rat) : Prop := ∃ a b c : Rn, v = .agg #[a.a, a.b, a.c, a.d, b.a, b.b, b.c, b.d, c.a, c.b, c.c, c.d] ∧ RatRep w a.v x ∧ RatRep w b.v y ∧ RatRep w c.v z
theorem Tri.keep {w w' : World} {v : Value} {x y z : Rat} (h : Tri w v x y z) (hk : Keeps w w') : Tri w' v x y z := by
 obtain ⟨a, b, c, e, h1, h2, h3⟩ := h
 exact ⟨a, b, c, e, h1.map hk.same32, h2.map hk.same32, h3.map hk.same32⟩
def TriB (w : World) (v : Value) (x y z : Rat) : Prop := ∃ (g : Nat) (a b c : Rn), v = .slice (some ⟨g, 0, none⟩) 1 1 ∧ Own w g 32 [a.a, a.b, a.c, a.d, b.a, b.b, b.c, b.d, c.a, c.b, c.c, c.d] ∧ RatRep w a.v x ∧ RatRep w b.v y ∧ RatRep w c.v z
theorem TriB.keep {w w' : World} {v : Value} {x y z : Rat} (h : TriB w v x y z) (hk : Keeps w w') : TriB w' v x y z := by
 obtain ⟨g, a, b, c, e, h0, h1, h2, h3⟩ := h
 exact ⟨g, a, b, c, e, h0.below hk, h1.map hk.same32, h2.map hk.same32, h3.map hk.same32⟩
theorem TriB.mk {w : World} {a b c : Rn} {x y z : Rat} (h1 : RatRep w a.v x) (h2 : RatRep w b.v y) (h3 : RatRep w c.v z) : TriB (w.alloc (.cells #[a.a, a.b, a.c, a.d, b.a, b.b, b.c, b.d, c.a, c.b, c.c, c.d] 32)) (.slice (some ⟨w.heap.size, 0, none⟩) 1 1) x y z :=
 ⟨_, a, b, c, rfl, Own.new w _ _, h1.map (box2 w _).same32, h2.map (box2 w _).same32, h3.map (box2 w _).same32⟩
set_option maxRecDepth 100000 in
theorem build_tri (a b c : Rn) (u : World) : (Instr.build 32 #[(0, a.v), (1, b.v), (2, c.v)]).run Tryz.prog u = .ok (.agg #[a.a, a.b, a.c, a.d, b.a, b.b, b.c, b.d, c.a, c.b, c.c, c.d]) u := by
 obtain ⟨a1, a2, a3, a4, a5, a6, a7, a8⟩ := a
 obtain ⟨b1, b2, b3, b4, b5, b6, b7, b8⟩ := b
 obtain ⟨c1, c2, c3, c4, c5, c6, c7, c8⟩ := c
 kernel_rfl
theorem owns_apart {w : World} {b1 b2 : Nat} {e1 e2 : TypeId} {s1 s2 : Nat} {v1 v2 : Value} {n1 n2 : Nat} {xs ys : List Value} (h : w.ownsRow b1 e1 s1 v1 n1 xs) (g : w.ownsRow b2 e2 s2 v2 n2 ys) (he : e1 ≠ e2) : ∀ k ∈ blkOf v1, k ∉ blkOf v2 := fun k hk hk2 => by
 rcases h.2 with ⟨rfl, -⟩ | ⟨g1, c1, r1, rfl, -, o1, -⟩
 ·simp [blkOf, Value.ownBlock] at hk
 rcases g.2 with ⟨rfl, -⟩ | ⟨g2, c2, r2, rfl, -, o2, -⟩
 ·simp [blkOf, Value.ownBlock] at hk2
 simp [blkOf, Value.ownBlock] at hk hk2
 subst hk
 subst hk2
 rw [o1] at o2
 cases o2
 exact he rfl
def CleanN (w : World) (base : Nat) (e : TypeId) (size : Nat) (v : Value) (n : Nat) (xs : List Value) : Prop := (v = .slice none 0 0 ∧ n = 0 ∧ xs = []) ∨ CleanRow w base e size v n xs
section
variable {w w' : World} {base : Nat} {e : TypeId} {size : Nat} {v : Value} {n : Nat} {xs : List Value}
theorem CleanN.nil : CleanN w base e size (.slice none 0 0) 0 [] := .inl ⟨rfl, rfl, rfl⟩
theorem CleanN.owns (h : CleanN w base e size v n xs) : w.ownsRow base e size v n xs := by
 rcases h with ⟨rfl, rfl, rfl⟩ | h
 ·exact World.ownsRow_nil w base e size
 ·exact h.owns
theorem CleanN.turn {T : List Nat} (h : CleanN w base e size v n xs) (ht : Turn T w w') (hv : ∀ k ∈ blkOf v, k ∉ T) : CleanN w' base e size v n xs := by
 rcases h with h | ⟨g, cap, cur, rfl, hb, hg, hr⟩
 ·exact .inl h
 ·have hlt : g < w.heap.size := (Array.getElem?_eq_some_iff.1 hg).1
  exact .inr ⟨g, cap, cur, rfl, hb, (ht.block g hlt (hv g (by simp [blkOf, Value.ownBlock]))).trans hg, hr⟩
theorem CleanN.keeps (h : CleanN w base e size v n xs) (hk : Keeps w w') : CleanN w' base e size v n xs := h.turn (Turn.of_keeps (T := []) hk) (by simp)
theorem CleanN.same (h : CleanN w base e size v n xs) (hg : w.grownBy w' v.ownBlock) : Same32 w w' := by
 rcases h with ⟨rfl, -, -⟩ | h
 ·have hk : Keeps w w' := (Turn.of_grown (v := .slice none 0 0) hg).keeps (by simp [blkOf, Value.ownBlock])
  exact hk.same32
 ·exact h.same hg
theorem CleanN.lt (h : CleanN w base e size v n xs) : ∀ g, v.ownBlock = some g → base ≤ g ∧ g < w.heap.size := by
 rcases h with ⟨rfl, -, -⟩ | h
 ·intro g hg; simp [Value.ownBlock] at hg
 ·exact h.lt
theorem wpList_append_cleanN {P : Program} {ops : Array Oper} {rest : List Oper} {o : Oper} {a : Act} {Q : Exit → Act → World → Prop} (hgd : o.guard = none) (s x : Operand) (t : TypeId)
 (ho : o.op = .call { callee := .builtin .append, args := #[s, x], argTypes := #[t, t] })
 (i : TypeInfo) (z : Value) (bytes : Nat) (ht : P.underlying t = some (.slice e)) (hi : P.info? e = some i) (hz : i.zero = some z)
 (hsize : i.size = size) (hby : i.bytes = bytes) (hzs : z.cells.size = size) (hzc : z.cells.toList.all noU32 = true)
 (hs : a.eval s = v) (hown : CleanN w base e size v n xs)
 (ad : Addr) (m c : Nat) (news : List Value) (hx : a.eval x = .slice (some ad) m c) (hl : news.length = m * size) (hnews : ∀ j u, news[j]? = some u → w.cell? (ad.add j) = some u) (h1 : ∀ u ∈ news, u.oneCell' = true) (hnc : news.all noU32 = true)
 (hm : 0 < m) (h63 : n + m ≤ maxLen) (hbytes : (n + m) * bytes ≤ 140737488355328) (hbase : base ≤ w.heap.size)
 (h : ∀ v' w', CleanN w' base e size v' (n + m) (xs ++ news) → w.grownBy w' v.ownBlock → wpList P ops Q rest (a.put o.dst v') w') : wpList P ops Q (o :: rest) a w := by
 rcases hown with ⟨rfl, rfl, rfl⟩ | hown
 ·subst hsize hby
  have hsmall : m ≤ 9223372036854775807 := by simp only [maxLen] at h63; omega
  have hr := run_append_nil (P := P) w t o.type e i z ht hi hz ad m c news hl hnews hm (by omega) (by have hb := hbytes; simp only [Nat.zero_add] at hb; omega)
  have hge := grownCap_ge w m 0 e
  refine wpList_plain hgd fun K hK => ?_
  unfold Oper.wp execOp
  simp only [ho, resolve, invoke, builtin, Sem.run_bind, Sem.run_pure, Result.andThen_ok, List.map_toArray, List.map_cons, List.map_nil, hs, hx, hr]
  refine hK _ _ (h _ _ (.inr ⟨w.heap.size, _, _, by rw [Nat.zero_add], hbase, heap_alloc_new w.drew _, by omega, grownCap_le_maxLen w m 0 e (by omega), ?_, ?_, ?_⟩) ⟨rfl, rfl, rfl, by simp, fun k hk _ => heap_alloc_old w.drew _ hk⟩)
  ·simp only [Array.size_append, List.size_toArray, size_zeroCells, hzs, hl, ← Nat.add_mul]
   congr 1
   omega
  ·simp only [Array.toList_append, List.nil_append, Nat.zero_add, ← hl]
   exact List.take_left
  ·simp only [Array.toList_append, List.all_append, hnc, zero_clean hzc, Bool.true_and]
 ·exact wpList_append_clean hgd s x t ho base e i z size bytes ht hi hz hsize hby hzs hzc v n xs hs hown ad m c news hx hl hnews h1 hnc h63 hbytes hbase fun v' w' h2 h3 => h v' w' (.inr h2) h3
end
theorem St.grownC {w0 w w' : World} {bs : List Bx} {ps : List (World → Prop)} {base : Nat} {e : TypeId} {size : Nat} {v : Value} {n : Nat} {xs : List Value} (S : St w0 w bs ps) (h : CleanN w base e size v n xs) (hg : w.grownBy w' v.ownBlock) (hlo : w0.heap.size ≤ base) (hbs : ∀ p ∈ bs, p.1 < base) : St w0 w' bs ps := by
 have S2 := S.grownB (base := base) hg (fun b e => (h.lt b e).1) hlo hbs
 exact ⟨S2.k, S2.b, S2.lo, S2.d, S.p.map (h.same hg)⟩
theorem info_spot : (Tryz.prog.info? 25).map (fun i => (i.zero, i.size, i.bytes)) = some (some (.agg #[.int .i64 0, .int .i64 0, .int .i64 0]), 3, 24) := by kernel_rfl
theorem info_tri : (Tryz.prog.info? 32).map (fun i => (i.zero, i.size, i.bytes)) = some (some (.agg zr12.toArray), 12, 192) := by kernel_rfl
theorem CleanN.irow {w : World} {base : Nat} {A : Option Addr} {n c k : Nat} {l : List Int} (h : CleanN w base 25 k (.slice A n c) n (i64s l)) (hl : l.length = n * k) : IRow w A l := by
 rcases h with ⟨e, rfl, h0⟩ | ⟨g, cap, cur, e, -, hg, -, -, hcs, ht, -⟩
 ·have : l.length = 0 := by omega
  intro hp
  omega
 ·cases e
  intro hp
  refine ⟨g, 0, rfl, (Array.getElem?_eq_some_iff.1 hg).1, fun j hj => ?_⟩
  rw [cell_of_row w g (0 + j) cur _ _ hg, Nat.zero_add]
  have h2 : (i64s l)[j]? = some (.int .i64 (l.getD j 0)) := i64s_at2 hj
  rw [← ht, List.getElem?_take] at h2
  split at h2
  ·simpa [iv] using h2
  ·cases h2
theorem CleanN.row {w : World} {base : Nat} {A : Option Addr} {n c k : Nat} {L : List Rn} {t : TypeId} {qs : List QV} (h : CleanN w base t k (.slice A n c) n (cellsQ L)) (hl : qs.length = L.length) (hn : L.length * 4 = n * k) (hq : ∀ j x, qs[j]? = some x → RatV2 w (L.getD j rz0).v x) : Row4 RatV2 w A qs := fun j z hj => by
 have hjl : j < L.length := by rw [← hl]; exact (List.getElem?_eq_some_iff.1 hj).1
 rcases h with ⟨e, rfl, h0⟩ | ⟨g, cap, cur, e, -, hg, -, -, hcs, ht, -⟩
 ·omega
 ·cases e
  have hc : ∀ i u, (cellsQ L)[i]? = some u → w.cell? ⟨g, i, none⟩ = some u := fun i u hu => by
   rw [cell_of_row w g i cur _ _ hg]
   rw [← ht, List.getElem?_take] at hu
   split at hu
   ·simpa using hu
   ·cases hu
  have c0 := cellsQ_get L hjl (show 0 < 4 by decide)
  have c1 := cellsQ_get L hjl (show 1 < 4 by decide)
  have c2 := cellsQ_get L hjl (show 2 < 4 by decide)
  have c3 := cellsQ_get L hjl (show 3 < 4 by decide)
  refine ⟨g, 0, (L.getD j rz0).a, (L.getD j rz0).b, (L.getD j rz0).c, (L.getD j rz0).d, rfl, ⟨?_, ?_, ?_, ?_⟩, hq j z hj⟩
  ·rw [Nat.zero_add]; exact hc _ _ c0
  ·rw [Nat.zero_add]; exact hc _ _ c1
  ·rw [Nat.zero_add]; exact hc _ _ c2
  ·rw [Nat.zero_add]; exact hc _ _ c3
end Go.Proofs.YtgcigdahjabimaaGreatDoor
