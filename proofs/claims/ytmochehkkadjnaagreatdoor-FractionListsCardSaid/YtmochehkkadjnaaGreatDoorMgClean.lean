/- Rows of structs that no group of digits lies in: append keeps them so. No program in sight. The walk of fraction.values. The walk of the reference's Greatest; Least and extreme on rows. The walks of fraction.Least and fraction.Greatest. -/
import Derived.Test.YtmochehkkadjnaaGreatDoorMgRats
import Derived.Deep.AppendLies
import Derived.Test.YtmochehkkadjnaaGreatDoorMgStab
import Derived.Test.YtmochehkkadjnaaGreatDoorMgFLst
namespace Go.Proofs.YtmochehkkadjnaaGreatDoor
open Go.RowKit

def CleanRow (w : World) (base : Nat) (e : TypeId) (size : Nat) (v : Value) (n : Nat) (xs : List Value) : Prop :=
  ∃ g cap cur, v = .slice (some ⟨g, 0, none⟩) n cap ∧ base ≤ g ∧ w.heap[g]? = some (.cells cur e (0, 0)) ∧ n ≤ cap ∧ cap ≤ maxLen ∧ cur.size = cap * size ∧ cur.toList.take (n * size) = xs ∧ cur.toList.all noU32 = true
section
variable {w w' : World} {base : Nat} {e : TypeId} {size : Nat} {v : Value} {n : Nat} {xs : List Value}
theorem CleanRow.owns (h : CleanRow w base e size v n xs) : w.ownsRow base e size v n xs := by
  obtain ⟨g, cap, cur, rfl, hb, hg, hnc, hcm, hcs, ht, -⟩ := h
  refine ⟨?_, .inr ⟨g, cap, cur, rfl, hb, hg, hnc, hcm, hcs, ht⟩⟩
  rw [← ht, List.length_take, Array.length_toList, hcs]
  exact Nat.min_eq_left (Nat.mul_le_mul_right _ hnc)
theorem CleanRow.below (h : CleanRow w base e size v n xs) (hk : Keeps w w') : CleanRow w' base e size v n xs := by
  obtain ⟨g, cap, cur, rfl, hb, hg, hr⟩ := h
  have hlt : g < w.heap.size := (Array.getElem?_eq_some_iff.1 hg).1
  exact ⟨g, cap, cur, rfl, hb, (hk.block g hlt).trans hg, hr⟩
theorem CleanRow.lt (h : CleanRow w base e size v n xs) : ∀ g, v.ownBlock = some g → base ≤ g ∧ g < w.heap.size := by
  obtain ⟨g, cap, cur, rfl, hb, hg, -⟩ := h
  intro k hk
  obtain rfl : g = k := by simpa [Value.ownBlock] using hk
  exact ⟨hb, (Array.getElem?_eq_some_iff.1 hg).1⟩
theorem CleanRow.same (h : CleanRow w base e size v n xs) (hg : w.grownBy w' v.ownBlock) : Same32 w w' := by
  obtain ⟨g, cap, cur, rfl, -, hh, -, -, -, -, hall⟩ := h
  rintro u ys ⟨A, c, rfl, h1, h2, h0, hrow⟩
  refine ⟨A, c, rfl, h1, h2, h0, fun hn => ?_⟩
  obtain ⟨b, o, rfl, hlt, hc⟩ := hrow hn
  have hne : some b ≠ Value.ownBlock (.slice (some ⟨g, 0, none⟩) n cap) := by
    intro e2
    obtain rfl : b = g := by simpa [Value.ownBlock] using e2
    have hc0 := hc 0 hn
    rw [cell_of_row w b (o + 0) cur _ _ hh] at hc0
    have hm : u32 ys 0 ∈ cur.toList := by
      rw [← Array.getElem?_toList] at hc0
      exact List.mem_of_getElem? hc0
    have := List.all_eq_true.1 hall _ hm
    simp [u32, noU32] at this
  exact ⟨b, o, rfl, Nat.lt_of_lt_of_le hlt hg.size, fun j hj => hg.cell (hc j hj) hne⟩
theorem zero_clean {z : Array Value} (hz : z.toList.all noU32 = true) (k : Nat) : (Builtin.zeroCells z k).toList.all noU32 = true := by
  rw [List.all_eq_true]
  intro x hx
  unfold Builtin.zeroCells at hx
  simp only [Array.toList_map, List.mem_map] at hx
  obtain ⟨i, hi, rfl⟩ := hx
  have hi : i < k * z.size := by simpa using hi
  have hp : 0 < z.size := Nat.pos_of_ne_zero fun h => by rw [h] at hi; simp at hi
  have hlt : i % z.size < z.size := Nat.mod_lt _ hp
  rw [getElem!_pos z _ hlt]
  exact List.all_eq_true.1 hz _ (Array.getElem_mem_toList hlt)
end
theorem run_append_clean {P : Program} (w : World) (base : Nat) (t ty e : TypeId) (i : TypeInfo) (z : Value) (ht : P.underlying t = some (.slice e)) (hi : P.info? e = some i) (hz : i.zero = some z)
    (hzs : z.cells.size = i.size) (hzc : z.cells.toList.all noU32 = true) (v : Value) (n : Nat) (xs : List Value) (hown : CleanRow w base e i.size v n xs)
    (a : Addr) (m c : Nat) (news : List Value) (hl : news.length = m * i.size) (hnews : ∀ j u, news[j]? = some u → w.cell? (a.add j) = some u) (h1 : ∀ u ∈ news, u.oneCell' = true) (hnc : news.all noU32 = true)
    (h63 : n + m ≤ maxLen) (hbytes : (n + m) * i.bytes ≤ 140737488355328) (hbase : base ≤ w.heap.size) :
    ∃ v' w', (Builtin.append_ #[t, t] ty #[v, .slice (some a) m c]).run P w = .ok v' w' ∧ CleanRow w' base e i.size v' (n + m) (xs ++ news) ∧ w.grownBy w' v.ownBlock := by
  have ho := hown.owns
  have hsmall : n + m ≤ 9223372036854775807 := by simp only [maxLen] at h63; omega
  have hlen : (xs ++ news).length = (n + m) * i.size := by rw [List.length_append, ho.1, hl, Nat.add_mul]
  obtain ⟨g, cap, cur, rfl, hbg, hg, hnc2, hcm, hcs, htake, hall⟩ := hown
  have hxall : xs.all noU32 = true := by
    rw [List.all_eq_true] at hall ⊢
    intro x hx
    rw [← htake] at hx
    exact hall x (List.mem_of_mem_take hx)
  by_cases hroom : n + m ≤ cap
  · have hfit : n * i.size + news.length ≤ cur.size := by rw [hl, hcs, ← Nat.add_mul]; exact Nat.mul_le_mul_right _ hroom
    have hr := run_append_room (P := P) w t ty e i ht hi g n cap cur hg a m c news hl hnews h1 hroom hfit
    refine ⟨_, _, hr, ⟨g, cap, _, rfl, hbg, setRow_heap w g cur _ e _ hg, hroom, hcm, ?_, ?_, ?_⟩, ⟨rfl, rfl, rfl, by simp, fun k _ hk => setRow_other w g k _ (fun e => hk (by simp [Value.ownBlock, e]))⟩⟩
    · simp only [List.size_toArray, List.length_append, List.length_take, List.length_drop, Array.length_toList]
      omega
    · rw [htake, ← hlen]
      exact List.take_left
    · rw [htake]
      simp only [List.all_append, hxall, hnc, Bool.true_and]
      rw [List.all_eq_true] at hall ⊢
      intro x hx
      exact hall x (List.mem_of_mem_drop hx)
  · have holds : ∀ j u, xs[j]? = some u → w.cell? ((⟨g, 0, none⟩ : Addr).add j) = some u := ho.cells (g := g) rfl
    have hr := run_append_grow (P := P) w t ty e i z ht hi hz ⟨g, 0, none⟩ n cap xs ho.1 holds a m c news hl hnews (by omega) (by omega) (growslice_fits (by omega) hbytes)
    have hge := grownCap_ge w (n + m) cap e
    refine ⟨_, _, hr, ⟨w.heap.size, _, _, rfl, hbase, heap_alloc_new w.drew _, hge, grownCap_le_maxLen w (n + m) cap e h63, ?_, ?_, ?_⟩, ⟨rfl, rfl, rfl, by simp, fun k hk _ => heap_alloc_old w.drew _ hk⟩⟩
    · simp only [Array.size_append, List.size_toArray, size_zeroCells, hzs, ho.1, hl, ← Nat.add_mul]
      congr 1
      omega
    · simp only [Array.toList_append, List.append_assoc]
      rw [← List.append_assoc, ← hlen]
      exact List.take_left
    · simp only [Array.toList_append, List.all_append, hxall, hnc, zero_clean hzc, Bool.true_and]
theorem wpList_append_clean {P : Program} {w : World} {ops : Array Oper} {rest : List Oper} {o : Oper} {a : Act} {Q : Exit → Act → World → Prop} (hgd : o.guard = none) (s x : Operand) (t : TypeId)
    (ho : o.op = .call { callee := .builtin .append, args := #[s, x], argTypes := #[t, t] })
    (base : Nat) (e : TypeId) (i : TypeInfo) (z : Value) (size bytes : Nat) (ht : P.underlying t = some (.slice e)) (hi : P.info? e = some i) (hz : i.zero = some z)
    (hsize : i.size = size) (hby : i.bytes = bytes) (hzs : z.cells.size = size) (hzc : z.cells.toList.all noU32 = true)
    (v : Value) (n : Nat) (xs : List Value) (hs : a.eval s = v) (hown : CleanRow w base e size v n xs)
    (ad : Addr) (m c : Nat) (news : List Value) (hx : a.eval x = .slice (some ad) m c) (hl : news.length = m * size) (hnews : ∀ j u, news[j]? = some u → w.cell? (ad.add j) = some u) (h1 : ∀ u ∈ news, u.oneCell' = true) (hnc : news.all noU32 = true)
    (h63 : n + m ≤ maxLen) (hbytes : (n + m) * bytes ≤ 140737488355328) (hbase : base ≤ w.heap.size)
    (h : ∀ v' w', CleanRow w' base e size v' (n + m) (xs ++ news) → w.grownBy w' v.ownBlock → wpList P ops Q rest (a.put o.dst v') w') : wpList P ops Q (o :: rest) a w := by
  subst hsize hby
  obtain ⟨v', w', hr, h2, h3⟩ := run_append_clean (P := P) w base t o.type e i z ht hi hz hzs hzc v n xs hown ad m c news hl hnews h1 hnc h63 hbytes hbase
  refine wpList_plain hgd fun K hK => ?_
  unfold Oper.wp execOp
  simp only [ho, resolve, invoke, builtin, Sem.run_bind, Sem.run_pure, Result.andThen_ok, List.map_toArray, List.map_cons, List.map_nil, hs, hx, hr]
  exact hK _ _ (h v' w' h2 h3)
theorem own_cells {w : World} {b : Nat} {t : TypeId} {vs : List Value} (h : Own w b t vs) : ∀ j u, vs[j]? = some u → w.cell? ((⟨b, 0, none⟩ : Addr).add j) = some u := fun j u hj => by
  rw [show (⟨b, 0, none⟩ : Addr).add j = ⟨b, j, none⟩ by unfold Addr.add; split <;> simp_all, h.cell]
  exact hj
def Elems (w : World) (xs : List Value) (qs : List Rat) : Prop :=
  xs.length = qs.length * 4 ∧ ∀ j q, qs[j]? = some q → ∃ c0 c1 c2 c3, xs[j * 4]? = some c0 ∧ xs[j * 4 + 1]? = some c1 ∧ xs[j * 4 + 2]? = some c2 ∧ xs[j * 4 + 3]? = some c3 ∧ RatRep w (.agg #[c0, c1, c2, c3]) q
theorem Elems.nil {w : World} : Elems w [] [] := ⟨rfl, fun j q h => by simp at h⟩
theorem Elems.map {w w' : World} {xs : List Value} {qs : List Rat} (h : Elems w xs qs) (hs : Same32 w w') : Elems w' xs qs :=
  ⟨h.1, fun j q hj => by obtain ⟨c0, c1, c2, c3, e0, e1, e2, e3, hr⟩ := h.2 j q hj; exact ⟨c0, c1, c2, c3, e0, e1, e2, e3, hr.map hs⟩⟩
theorem Elems.snoc {w : World} {xs : List Value} {qs : List Rat} (h : Elems w xs qs) {c0 c1 c2 c3 : Value} {q : Rat} (hq : RatRep w (.agg #[c0, c1, c2, c3]) q) : Elems w (xs ++ [c0, c1, c2, c3]) (qs ++ [q]) := by
  refine ⟨by rw [List.length_append, List.length_append, h.1]; simp; omega, fun j p hj => ?_⟩
  by_cases hlt : j < qs.length
  · rw [List.getElem?_append_left hlt] at hj
    obtain ⟨d0, d1, d2, d3, e0, e1, e2, e3, hr⟩ := h.2 j p hj
    have hx := h.1
    exact ⟨d0, d1, d2, d3, by rw [List.getElem?_append_left (by omega)]; exact e0, by rw [List.getElem?_append_left (by omega)]; exact e1, by rw [List.getElem?_append_left (by omega)]; exact e2, by rw [List.getElem?_append_left (by omega)]; exact e3, hr⟩
  · have hj2 : j = qs.length := by
      have := (List.getElem?_eq_some_iff.1 hj).1
      rw [List.length_append, List.length_singleton] at this
      omega
    subst hj2
    rw [List.getElem?_append_right (Nat.le_refl _), Nat.sub_self] at hj
    obtain rfl : q = p := by simpa using hj
    have hx := h.1
    refine ⟨c0, c1, c2, c3, ?_, ?_, ?_, ?_, hq⟩
    · rw [List.getElem?_append_right (by omega), show qs.length * 4 - xs.length = 0 by omega]; rfl
    · rw [List.getElem?_append_right (by omega), show qs.length * 4 + 1 - xs.length = 1 by omega]; rfl
    · rw [List.getElem?_append_right (by omega), show qs.length * 4 + 2 - xs.length = 2 by omega]; rfl
    · rw [List.getElem?_append_right (by omega), show qs.length * 4 + 3 - xs.length = 3 by omega]; rfl
theorem CleanRow.row4 {w : World} {base : Nat} {e : TypeId} {v : Value} {xs : List Value} {qs : List Rat} (h : CleanRow w base e 4 v qs.length xs) (he : Elems w xs qs) :
    ∃ g cap, v = .slice (some ⟨g, 0, none⟩) qs.length cap ∧ qs.length ≤ cap ∧ cap ≤ maxLen ∧ Row4 RatRep w (some ⟨g, 0, none⟩) qs := by
  have ho := h.owns
  obtain ⟨g, cap, cur, rfl, hb, hg, hnc, hcm, hcs, ht, -⟩ := h
  refine ⟨g, cap, rfl, hnc, hcm, fun j q hj => ?_⟩
  obtain ⟨c0, c1, c2, c3, e0, e1, e2, e3, hr⟩ := he.2 j q hj
  have hc : ∀ (i : Nat) (u : Value), xs[i]? = some u → w.cell? ⟨g, 0 + i, none⟩ = some u := fun i u hi => by
    have := ho.cells (g := g) rfl i u hi
    rwa [show (⟨g, 0, none⟩ : Addr).add i = ⟨g, 0 + i, none⟩ by unfold Addr.add; split <;> simp_all] at this
  exact ⟨g, 0, c0, c1, c2, c3, rfl, ⟨hc _ _ e0, by have := hc _ _ e1; rwa [← Nat.add_assoc] at this, by have := hc _ _ e2; rwa [← Nat.add_assoc] at this, by have := hc _ _ e3; rwa [← Nat.add_assoc] at this⟩, hr⟩
end Go.Proofs.YtmochehkkadjnaaGreatDoor

namespace Go.Proofs.YtmochehkkadjnaaGreatDoor
open Go.RowKit Go.Shelf

def zratV : Value := .agg #[.bool false, .slice none 0 0, .bool false, .slice none 0 0]
theorem info_rat : (Tryz.prog.info? 28).map (fun i => (i.zero, i.size, i.bytes)) = some (some zratV, 4, 64) := by kernel_rfl
theorem made_clean {z : Array Value} (hz : z.toList.all noU32 = true) (k : Nat) : (madeCells z k).toList.all noU32 = true := by
  rw [List.all_eq_true]
  intro x hx
  unfold madeCells at hx
  simp only [Array.toList_map, List.mem_map] at hx
  obtain ⟨i, hi, rfl⟩ := hx
  by_cases hp : 0 < z.size
  · have hlt : i % z.size < z.size := Nat.mod_lt _ hp
    rw [getElem!_pos z _ hlt]
    exact List.all_eq_true.1 hz _ (Array.getElem_mem_toList hlt)
  · have h0 : z.size = 0 := by omega
    have : z = #[] := Array.eq_empty_of_size_eq_zero h0
    subst this
    rfl
theorem make_rat (k : Int) (n : Nat) (e : k = (n : Int)) (h : n ≤ 1000) : ∀ u : World, (Instr.makeSlice 59 (.int .i64 0) (.int .i64 k)).run Tryz.prog u =
    .ok (.slice (some ⟨u.heap.size, 0, none⟩) 0 n) (u.alloc (.cells (madeCells #[.bool false, .slice none 0 0, .bool false, .slice none 0 0] (n * 4)) 28)) := fun u => by
  subst e
  obtain ⟨i0, hi, hz0, hz1, hz2⟩ := info_parts info_rat
  have h := run_make (P := Tryz.prog) u 59 28 i0 zratV Tryz.underlying59 hi hz0 .i64 .i64 0 (n : Int) (by omega) (by omega) (by rw [hz2]; omega) (by omega)
  simpa [hz1, zratV, Value.cells] using h
def RowOf (w w' : World) (V : Value) (qs : List Rat) : Prop := ∃ xs, CleanRow w' w.heap.size 28 4 V qs.length xs ∧ Elems w' xs qs
set_option maxRecDepth 100000 in
set_option maxHeartbeats 1000000 in
theorem fvalues_any {w : World} {A : Option Addr} {c : Nat} {qs : List Rat} (hr : Row4 RatNum w A qs) (hn : qs.length ≤ 8) :
    Calls Tryz.prog 123 #[.slice A qs.length c] w fun e w' => ∃ V, e = .returned V ∧ RowOf w w' V qs ∧ Keeps w w' := by
  obtain ⟨i0, hi, hz0, hz1, hz2⟩ := info_parts info_rat
  have hmk := make_rat (qs.length : Int) qs.length rfl (by omega)
  have HR := Lib.hid hr
  have hnI : (qs.length : Int) ≤ 8 := by omega
  have hown : CleanRow (w.alloc (.cells (madeCells #[.bool false, .slice none 0 0, .bool false, .slice none 0 0] (qs.length * 4)) 28)) w.heap.size 28 4 (.slice (some ⟨w.heap.size, 0, none⟩) 0 qs.length) 0 [] :=
    ⟨w.heap.size, qs.length, _, rfl, Nat.le_refl _, heap_alloc_new w _, Nat.zero_le _, by simp only [maxLen]; omega, size_madeCells _ _, by simp, made_clean rfl _⟩
  have hk := box2 w (.cells (madeCells #[.bool false, .slice none 0 0, .bool false, .slice none 0 0] (qs.length * 4)) 28)
  clear hr
  go_enter Tryz.func123, Tryz.ntmps123
  go_wp2
  clear hmk
  generalize w.alloc (.cells (madeCells #[.bool false, .slice none 0 0, .bool false, .slice none 0 0] (qs.length * 4)) 28) = W at *
  go_loopw [11, 3] (fun i g wr => ∃ (k : Nat) (xs : List Value), k ≤ qs.length ∧ i = .int .i64 (k : Nat) ∧ CleanRow wr w.heap.size 28 4 g k xs ∧ Elems wr xs (qs.take k) ∧ Keeps w wr) (fun i _ _ => qs.length - (intOf i).toNat)
  case atStart => exact ⟨0, [], Nat.zero_le _, rfl, hown, by rw [List.take_zero]; exact Elems.nil, hk⟩
  case round =>
    clear hown hk
    obtain ⟨k, xs, hkd, rfl, hown, hel, hk⟩ := hrel
    by_cases hlt : k < qs.length
    · obtain ⟨q, hq⟩ : ∃ q, qs[k]? = some q := ⟨_, List.getElem?_eq_getElem hlt⟩
      obtain ⟨B, o, x0, x1, x2, x3, rfl, hc, hx⟩ := HR.out.get lasts_num hq
      have hX := hx wr hk
      obtain ⟨bx, Ax, nx, cx, dx, Bx, mx, ex, he⟩ := hX.open_
      cases he
      obtain ⟨g0, g1, g2, g3⟩ := hc wr hk
      have hqs : qs[k] = q := by rw [List.getElem?_eq_getElem hlt] at hq; exact Option.some.inj hq
      have htk : qs.take (k + 1) = qs.take k ++ [q] := by rw [List.take_succ_eq_append_getElem hlt, hqs]
      have HTK := Lib.hid htk
      have hkI : (k : Int) ≤ 8 := by omega
      have t1 : decide ((k : Int) < (qs.length : Int)) = true := decide_eq_true (by omega)
      have S := (St.start wr).addR hX
      clear hqs hq hc hx hX htk
      go_upto_region 5 with fail
      replace S := (S.alloc 28 [.bool bx, .slice Ax nx cx, .bool dx, .slice Bx mx ex])
      obtain ⟨W1, eW, S⟩ := S.pack
      rw [eW]
      clear eW
      have r0 := S.c 0 0 rfl rfl
      have r1 := S.c 0 1 rfl rfl
      have r2 := S.c 0 2 rfl rfl
      have r3 := S.c 0 3 rfl rfl
      go_wp2_with fail
      refine (fvalue_num (S.ri 0 rfl)).mono ?_
      rintro e W2 ⟨U2, rfl, hp, hk2⟩
      obtain ⟨b, A1, n1, c1, d, B1, m1, e1, rfl⟩ := hp.open_
      replace S := S.below hk2
      have hown2 := (hown.below S.k).below (box2 W2 (.cells #[.bool b, .slice A1 n1 c1, .bool d, .slice B1 m1 e1] 28))
      have hel2 := (hel.map S.k.same32).map (box2 W2 (.cells #[.bool b, .slice A1 n1 c1, .bool d, .slice B1 m1 e1] 28)).same32
      have hp2 := hp.below (box2 W2 (.cells #[.bool b, .slice A1 n1 c1, .bool d, .slice B1 m1 e1] 28))
      have hkk := (hk.trans' S.k).trans' (box2 W2 (.cells #[.bool b, .slice A1 n1 c1, .bool d, .slice B1 m1 e1] 28))
      have hnew := Own.new W2 28 [.bool b, .slice A1 n1 c1, .bool d, .slice B1 m1 e1]
      clear r0 r1 r2 r3 hk2 hp hk hown hel
      go_wp2_with (at_builtin; refine wpList_append_clean rfl _ _ 59 rfl w.heap.size 28 i0 zratV 4 64 Tryz.underlying59 hi hz0 hz1 hz2 rfl rfl _ _ _ rfl hown2 ⟨W2.heap.size, 0, none⟩ 1 1 [.bool b, .slice A1 n1 c1, .bool d, .slice B1 m1 e1] rfl rfl (own_cells hnew) (by simp [Value.oneCell']) rfl (by simp only [maxLen]; omega) (by omega) (by have := hkk.size; omega) ?_; intro v' w1 hown' hgrow)
      have hel' := (hel2.map (hown2.same hgrow)).snoc (hp2.map (hown2.same hgrow))
      have hk3 : Keeps w w1 := hkk.grown hgrow (by have := hkk.size; omega) (fun b e => (hown2.lt b e).1)
      go_roundw
      case rel => exact ⟨k + 1, _, by omega, by go_num, hown', by rw [HTK.out]; exact hel', hk3⟩
      case measure => simp [intOf]; omega
    · have t1 : decide ((k : Int) < (qs.length : Int)) = false := decide_eq_false (by omega)
      obtain rfl : k = qs.length := by omega
      rw [List.take_of_length_le (Nat.le_refl _)] at hel
      go_wp2
      go_ret
      exact ⟨_, rfl, ⟨xs, hown, hel⟩, hk⟩
end Go.Proofs.YtmochehkkadjnaaGreatDoor

namespace Go.Proofs.YtmochehkkadjnaaGreatDoor
open Go.RowKit Go.Shelf

def negs (l : List Rat) : List Rat := l.map (fun q => -q)
theorem min_neg : ∀ (r : List Rat) (a : Rat), (negs r).foldl (fun b x => if x < b then x else b) (-a) = -(r.foldl (fun b x => if b < x then x else b) a)
  | [], a => rfl
  | x :: r, a => by
    show (negs r).foldl _ (if -x < -a then -x else -a) = -(r.foldl _ (if a < x then x else a))
    by_cases h : a < x
    · rw [if_pos h, if_pos (Rat.neg_lt_neg h)]; exact min_neg r x
    · rw [if_neg h, if_neg (fun h2 => h (by have := Rat.neg_lt_neg h2; rwa [Rat.neg_neg, Rat.neg_neg] at this))]; exact min_neg r a
theorem maxL_neg {l : List Rat} (h : l ≠ []) : maxL l = -minL (negs l) := by
  cases l with
  | nil => exact absurd rfl h
  | cons a r =>
    show r.foldl _ a = -((negs r).foldl _ (-a))
    rw [min_neg, Rat.neg_neg]
def lstC (l : List Rat) : Int := if l.length = 0 then 6 else 0
theorem gleast_row {w : World} {A : Option Addr} {c : Nat} {qs : List Rat} (hr : Row4 RatNum w A qs) (hz : ∀ q ∈ qs, szR q ≤ 100) (hn : qs.length ≤ 8) :
    Calls Tryz.prog 70 #[.slice A qs.length c] w (RCode (lstC qs) (minL qs) w) := by
  unfold lstC
  cases qs with
  | nil => exact gleast_0 rfl
  | cons a r =>
    rw [if_neg (by simp)]
    obtain ⟨B, o, x0, x1, x2, x3, rfl, hc, hx⟩ := hr.get lasts_num (j := 0) (x := a) rfl
    obtain ⟨bx, Ax, nx, cx, dx, Bx, mx, ex, he⟩ := (hx w (Below.refl _ _)).open_
    cases he
    exact gleast_any hr hz hn (by simp) rfl (fun W hk => by have := hc W hk; rwa [Nat.zero_mul, Nat.add_zero] at this) hx
theorem Row4.num {w : World} {A : Option Addr} {qs : List Rat} (h : Row4 RatRep w A qs) (hz : ∀ q ∈ qs, szR q ≤ 100) : Row4 RatNum w A qs := fun j q hj => by
  obtain ⟨B, o, c0, c1, c2, c3, e, hc, hr⟩ := h j q hj
  exact ⟨B, o, c0, c1, c2, c3, e, hc, hr.num (by have := hz q (List.mem_of_getElem? hj); omega)⟩
theorem extL_row {w : World} {g cap : Nat} {qs : List Rat} (hr : Row4 RatRep w (some ⟨g, 0, none⟩) qs) (hz : ∀ q ∈ qs, szR q ≤ 100) (hn : qs.length ≤ 8) (hcap : qs.length ≤ cap) :
    Calls Tryz.prog 122 #[.int .i64 1, .slice (some ⟨g, 0, none⟩) qs.length cap] w (RCode (lstC qs) (minL qs) w) := by
  unfold lstC
  match qs, hr, hz, hn, hcap with
  | [], _, _, _, _ => exact extL_0 rfl
  | a :: r, hr, hz, hn, hcap =>
    rw [if_neg (by simp)]
    obtain ⟨B, o, x0, x1, x2, x3, hB, hc, hx⟩ := hr.get lasts_rep (j := 0) (x := a) rfl
    cases hB
    have hX := hx w (Below.refl _ _)
    obtain ⟨bx, Ax, nx, cx, dx, Bx, mx, ex, he⟩ := hX.open_
    cases he
    have hc' : ∀ W, Keeps w W → W.cell? ⟨g, 0, none⟩ = some (.bool bx) ∧ W.cell? ⟨g, 0 + 1, none⟩ = some (.slice Ax nx cx) ∧ W.cell? ⟨g, 0 + 2, none⟩ = some (.bool dx) ∧ W.cell? ⟨g, 0 + 3, none⟩ = some (.slice Bx mx ex) := fun W hk => by have := hc W hk; rwa [Nat.zero_mul, Nat.add_zero] at this
    obtain ⟨cc, rfl⟩ : ∃ cc, cap = cc + 1 := ⟨cap - 1, by rw [List.length_cons] at hcap; omega⟩
    by_cases h0 : cc = 0
    · subst h0
      have hr0 : r = [] := List.eq_nil_of_length_eq_zero (by rw [List.length_cons] at hcap; omega)
      subst hr0
      exact extL_1 hc' hX
    · exact extL_any hr hz (by rw [List.length_cons]) h0 (by rw [List.length_cons] at hn; omega) rfl hc' hX
theorem extG_row {w : World} {g cap : Nat} {qs : List Rat} (hr : Row4 RatRep w (some ⟨g, 0, none⟩) qs) (hz : ∀ q ∈ qs, szR q ≤ 100) (hn : qs.length ≤ 8) (hcap : qs.length ≤ cap) :
    Calls Tryz.prog 122 #[.int .i64 (-1), .slice (some ⟨g, 0, none⟩) qs.length cap] w (RCode (lstC qs) (maxL qs) w) := by
  unfold lstC
  match qs, hr, hz, hn, hcap with
  | [], _, _, _, _ => exact extG_0 rfl
  | a :: r, hr, hz, hn, hcap =>
    rw [if_neg (by simp)]
    obtain ⟨B, o, x0, x1, x2, x3, hB, hc, hx⟩ := hr.get lasts_rep (j := 0) (x := a) rfl
    cases hB
    have hX := hx w (Below.refl _ _)
    obtain ⟨bx, Ax, nx, cx, dx, Bx, mx, ex, he⟩ := hX.open_
    cases he
    have hc' : ∀ W, Keeps w W → W.cell? ⟨g, 0, none⟩ = some (.bool bx) ∧ W.cell? ⟨g, 0 + 1, none⟩ = some (.slice Ax nx cx) ∧ W.cell? ⟨g, 0 + 2, none⟩ = some (.bool dx) ∧ W.cell? ⟨g, 0 + 3, none⟩ = some (.slice Bx mx ex) := fun W hk => by have := hc W hk; rwa [Nat.zero_mul, Nat.add_zero] at this
    obtain ⟨cc, rfl⟩ : ∃ cc, cap = cc + 1 := ⟨cap - 1, by rw [List.length_cons] at hcap; omega⟩
    by_cases h0 : cc = 0
    · subst h0
      have hr0 : r = [] := List.eq_nil_of_length_eq_zero (by rw [List.length_cons] at hcap; omega)
      subst hr0
      exact extG_1 hc' hX
    · exact extG_any hr hz (by rw [List.length_cons]) h0 (by rw [List.length_cons] at hn; omega) rfl hc' hX
set_option maxRecDepth 100000 in
set_option maxHeartbeats 1000000 in
theorem ggreat_any {w : World} {A : Option Addr} {c : Nat} {qs : List Rat} (hr : Row4 RatNum w A qs) (hz : ∀ q ∈ qs, szR q ≤ 8) (hn : qs.length ≤ 8) :
    Calls Tryz.prog 72 #[.slice A qs.length c] w (RCode (lstC qs) (maxL qs) w) := by
  obtain ⟨i0, hi, hz0, hz1, hz2⟩ := info_parts info_rat
  have HR := Lib.hid hr
  have HZ := Lib.hid hz
  have hnI : (qs.length : Int) ≤ 8 := by omega
  have hnew0 := Own.new w 28 [.bool false, .slice none 0 0, .bool false, .slice none 0 0]
  have hbox := hnew0.alloc (.cells #[] 28)
  have hown : CleanRow ((w.alloc (.cells #[.bool false, .slice none 0 0, .bool false, .slice none 0 0] 28)).alloc (.cells #[] 28)) (w.heap.size + 1) 28 4 (.slice (some ⟨w.heap.size + 1, 0, none⟩) 0 0) 0 [] :=
    ⟨w.heap.size + 1, 0, #[], rfl, Nat.le_refl _, by have := heap_alloc_new (w.alloc (.cells #[.bool false, .slice none 0 0, .bool false, .slice none 0 0] 28)) (.cells #[] 28); rwa [World.size_alloc] at this, Nat.le_refl _, by simp [maxLen], rfl, rfl, rfl⟩
  have hk := keep2 w (.cells #[.bool false, .slice none 0 0, .bool false, .slice none 0 0] 28) (.cells #[] 28)
  clear hr hz hnew0
  go_enter Tryz.func72, Tryz.ntmps72
  go_wp2
  generalize (w.alloc (.cells #[.bool false, .slice none 0 0, .bool false, .slice none 0 0] 28)).alloc (.cells #[] 28) = W at *
  go_loopw [4, 5] (fun g i wr => ∃ (k : Nat) (xs : List Value), k ≤ qs.length ∧ i = .int .i64 (k : Nat) ∧ CleanRow wr (w.heap.size + 1) 28 4 g k xs ∧ Elems wr xs (negs (qs.take k)) ∧ Own wr w.heap.size 28 [.bool false, .slice none 0 0, .bool false, .slice none 0 0] ∧ Keeps w wr) (fun _ i _ => qs.length - (intOf i).toNat)
  case atStart => exact ⟨0, [], Nat.zero_le _, rfl, hown, by rw [List.take_zero]; exact Elems.nil, hbox, hk⟩
  case round =>
    clear hown hk hbox
    obtain ⟨k, xs, hkd, rfl, hown, hel, hbox, hk⟩ := hrel
    by_cases hlt : k < qs.length
    · obtain ⟨q, hq⟩ : ∃ q, qs[k]? = some q := ⟨_, List.getElem?_eq_getElem hlt⟩
      obtain ⟨B, o, x0, x1, x2, x3, rfl, hc, hx⟩ := HR.out.get lasts_num hq
      have hX := hx wr hk
      obtain ⟨bx, Ax, nx, cx, dx, Bx, mx, ex, he⟩ := hX.open_
      cases he
      obtain ⟨g0, g1, g2, g3⟩ := hc wr hk
      have hqs : qs[k] = q := by rw [List.getElem?_eq_getElem hlt] at hq; exact Option.some.inj hq
      have HTK := Lib.hid (show negs (qs.take (k + 1)) = negs (qs.take k) ++ [-q] by rw [List.take_succ_eq_append_getElem hlt, hqs]; simp [negs])
      have hkI : (k : Int) ≤ 8 := by omega
      have t1 : decide ((k : Int) < (qs.length : Int)) = true := decide_eq_true (by omega)
      clear hqs hq hc hx
      go_wp2_with fail
      refine (gneg_num hX).mono ?_
      rintro e W2 ⟨U2, rfl, hp, hk2⟩
      obtain ⟨b, A1, n1, c1, d, B1, m1, e1, rfl⟩ := hp.open_
      have hown2 := (hown.below hk2).below (box2 W2 (.cells #[.bool b, .slice A1 n1 c1, .bool d, .slice B1 m1 e1] 28))
      have hel2 := (hel.map hk2.same32).map (box2 W2 (.cells #[.bool b, .slice A1 n1 c1, .bool d, .slice B1 m1 e1] 28)).same32
      have hp2 := hp.below (box2 W2 (.cells #[.bool b, .slice A1 n1 c1, .bool d, .slice B1 m1 e1] 28))
      have hkk := (hk.trans' hk2).trans' (box2 W2 (.cells #[.bool b, .slice A1 n1 c1, .bool d, .slice B1 m1 e1] 28))
      have hbox2 := (hbox.below hk2).alloc (.cells #[.bool b, .slice A1 n1 c1, .bool d, .slice B1 m1 e1] 28)
      have hnew := Own.new W2 28 [.bool b, .slice A1 n1 c1, .bool d, .slice B1 m1 e1]
      have hlt2 := hbox2.lt
      clear hk2 hp hk hown hel g0 g1 g2 g3 hX hbox
      go_wp2_with (at_builtin; refine wpList_append_clean rfl _ _ 59 rfl (w.heap.size + 1) 28 i0 zratV 4 64 Tryz.underlying59 hi hz0 hz1 hz2 rfl rfl _ _ _ rfl hown2 ⟨W2.heap.size, 0, none⟩ 1 1 [.bool b, .slice A1 n1 c1, .bool d, .slice B1 m1 e1] rfl rfl (own_cells hnew) (by simp [Value.oneCell']) rfl (by simp only [maxLen]; omega) (by omega) (by omega) ?_; intro v' w1 hown' hgrow)
      have hel' := (hel2.map (hown2.same hgrow)).snoc (hp2.map (hown2.same hgrow))
      have hk3 : Keeps w w1 := hkk.grown hgrow (by have := hkk.size; omega) (fun b e => by have := (hown2.lt b e).1; omega)
      have hbox3 := hbox2.grown hgrow (fun e => by have := (hown2.lt _ e.symm).1; omega)
      go_roundw
      case rel => exact ⟨k + 1, _, by omega, by go_num, hown', by rw [HTK.out]; exact hel', hbox3, hk3⟩
      case measure => simp [intOf]; omega
    · have t1 : decide ((k : Int) < (qs.length : Int)) = false := decide_eq_false (by omega)
      obtain rfl : k = qs.length := by omega
      rw [List.take_of_length_le (Nat.le_refl _)] at hel
      have hnl : (negs qs).length = qs.length := by simp [negs]
      obtain ⟨g, cap, rfl, hcap, hcm, hrow⟩ := CleanRow.row4 (qs := negs qs) (by rw [hnl]; exact hown) hel
      have hz2' : ∀ q ∈ negs qs, szR q ≤ 100 := fun q hq => by
        obtain ⟨p, hp, rfl⟩ := List.mem_map.1 hq
        rw [szR_neg]
        have := HZ.out p hp
        omega
      have hle := fun (W : World) (hkW : Keeps wr W) => gleast_row (c := cap) ((hrow.num hz2').below lasts_num hkW) hz2' (by rw [hnl]; exact hn)
      rw [hnl] at hle ⊢
      have S : St w wr [(w.heap.size, 28, [.bool false, .slice none 0 0, .bool false, .slice none 0 0])] [] := ⟨hk, ⟨hbox, trivial⟩, by simp, by simp, trivial⟩
      have hzm : qs ≠ [] → szR (minL (negs qs)) ≤ 100 := fun h => by
        have h0 : 0 < (negs qs).length := by rw [hnl]; exact List.length_pos_iff.2 h
        have := szR_min hz2' (negs qs).length h0 (Nat.le_refl _)
        rwa [List.take_of_length_le (Nat.le_refl _)] at this
      clear hk hbox hown hel hrow hz2'
      by_cases h0 : qs.length = 0
      · have hm0 : lstC (negs qs) = 6 ∧ minL (negs qs) = 0 := by
          rw [List.eq_nil_of_length_eq_zero h0]; exact ⟨rfl, rfl⟩
        rw [hm0.1, hm0.2] at hle
        have hl0 : lstC qs = 6 := if_pos h0
        have HL0 := Lib.hid hl0
        have HLE := Lib.hid hle
        clear hle hm0 hl0 hnl hzm h0
        go_wp2_with fail
        refine ((HLE.out _ (Below.refl _ _))).mono ?_
        rintro e W31 ⟨U31, rfl, hp, hk⟩
        rw [if_neg (by decide)] at hp
        unfold zeroRat at hp
        subst hp
        replace S := S.below hk
        clear hk
        go_upto_region 8 with fail
        replace S := (S.alloc 28 [.bool false, .slice none 0 0, .bool false, .slice none 0 0])
        obtain ⟨W32, eW, S⟩ := S.pack
        rw [eW]
        clear eW
        generalize W31.heap.size = P31 at *
        have r0_0 := S.c 1 0 rfl rfl
        have f0_0 := S.f 1 0 rfl
        have r0_1 := S.c 1 1 rfl rfl
        have f0_1 := S.f 1 1 rfl
        have r0_2 := S.c 1 2 rfl rfl
        have f0_2 := S.f 1 2 rfl
        have r0_3 := S.c 1 3 rfl rfl
        have f0_3 := S.f 1 3 rfl
        go_wp2
        replace S := (S.put4 1 rfl rfl rfl (x' := .bool false) (y' := .slice none 0 0) (z' := .bool false) (u' := .slice none 0 0))
        refine bodyPost_ret (v := .tuple #[.agg #[.bool false, .slice none 0 0, .bool false, .slice none 0 0], .int .i64 6]) (by simp [results, Tryz.results72, go_sem, S.c 1 0 rfl rfl, S.c 1 1 rfl rfl, S.c 1 2 rfl rfl, S.c 1 3 rfl rfl]) rfl ?_
        refine ⟨_, by rw [HL0.out], ?_, S.k⟩
        rw [HL0.out, if_neg (by decide)]
        rfl
      · have hne : qs ≠ [] := fun e => h0 (by rw [e]; rfl)
        have hm0 : lstC (negs qs) = 0 := if_neg (by rw [hnl]; exact h0)
        rw [hm0] at hle
        have hl0 : lstC qs = 0 := if_neg h0
        have HL0 := Lib.hid hl0
        have HLE := Lib.hid hle
        have HNE := Lib.hid hne
        have hzm2 := hzm hne
        clear hle hm0 hl0 hnl hzm hne h0
        have y0 := Nat.le_of_eq (szR_neg (minL (negs qs)))
        go_wp2_with fail
        refine ((HLE.out _ (Below.refl _ _))).mono ?_
        rintro e W31 ⟨U31, rfl, hp, hk⟩
        rw [if_pos rfl] at hp
        obtain ⟨b33, A33, n33, c33, d33, B33, m33, e33, rfl⟩ := hp.open_
        replace S := (S.below hk).addQ hp
        clear hk hp
        go_upto_region 9 with fail
        replace S := (S.alloc 28 [.bool b33, .slice A33 n33 c33, .bool d33, .slice B33 m33 e33])
        obtain ⟨W32, eW, S⟩ := S.pack
        rw [eW]
        clear eW
        generalize W31.heap.size = P31 at *
        have r1_0 := S.c 0 0 rfl rfl
        have r1_1 := S.c 0 1 rfl rfl
        have r1_2 := S.c 0 2 rfl rfl
        have r1_3 := S.c 0 3 rfl rfl
        go_wp2_with fail
        refine ((gneg_num ((S.qi 0 rfl).num (by omega)))).mono ?_
        rintro e W33 ⟨U33, rfl, hp, hk⟩
        obtain ⟨b34, A34, n34, c34, d34, B34, m34, e34, rfl⟩ := hp.open_
        replace S := (S.below hk).addQ hp
        clear hk hp
        clear r1_0 r1_1 r1_2 r1_3
        have r0_0 := S.c 1 0 rfl rfl
        have f0_0 := S.f 1 0 rfl
        have r0_1 := S.c 1 1 rfl rfl
        have f0_1 := S.f 1 1 rfl
        have r0_2 := S.c 1 2 rfl rfl
        have f0_2 := S.f 1 2 rfl
        have r0_3 := S.c 1 3 rfl rfl
        have f0_3 := S.f 1 3 rfl
        go_wp2
        replace S := (S.put4 1 rfl rfl rfl (x' := .bool b34) (y' := .slice A34 n34 c34) (z' := .bool d34) (u' := .slice B34 m34 e34))
        refine bodyPost_ret (v := .tuple #[.agg #[.bool b34, .slice A34 n34 c34, .bool d34, .slice B34 m34 e34], .int .i64 0]) (by simp [results, Tryz.results72, go_sem, S.c 1 0 rfl rfl, S.c 1 1 rfl rfl, S.c 1 2 rfl rfl, S.c 1 3 rfl rfl]) rfl ?_
        refine ⟨_, by rw [HL0.out], ?_, S.k⟩
        rw [HL0.out, if_pos rfl, maxL_neg HNE.out]
        exact S.qi 0 rfl
end Go.Proofs.YtmochehkkadjnaaGreatDoor

namespace Go.Proofs.YtmochehkkadjnaaGreatDoor
open Go.RowKit Go.Shelf

set_option maxRecDepth 100000 in
set_option maxHeartbeats 1000000 in
theorem fleast_any {w : World} {A : Option Addr} {c : Nat} {qs : List Rat} (hr : Row4 RatNum w A qs) (hz : ∀ q ∈ qs, szR q ≤ 8) (hn : qs.length ≤ 8) :
    Calls Tryz.prog 69 #[.slice A qs.length c] w (RCode (lstC qs) (minL qs) w) := by
  have HR := Lib.hid hr
  have hz2 : ∀ q ∈ qs, szR q ≤ 100 := fun q hq => by have := hz q hq; omega
  have HZ := Lib.hid hz2
  have S := (St.start w).alloc 28 [.bool false, .slice none 0 0, .bool false, .slice none 0 0]
  clear hr hz hz2
  go_enter Tryz.func69, Tryz.ntmps69
  go_wp2_with fail
  obtain ⟨W1, eW, S⟩ := S.pack
  rw [eW]
  clear eW
  refine (fvalues_any (HR.out.below lasts_num S.k) hn).mono ?_
  rintro e W2 ⟨V, rfl, ⟨xs, hown, hel⟩, hk⟩
  obtain ⟨g, cap, rfl, hcap, hcm, hrow⟩ := hown.row4 hel
  replace S := S.below hk
  have HROW := Lib.hid hrow
  clear hk hown hel hrow hcm
  go_wp2_with fail
  refine (extL_row HROW.out HZ.out hn hcap).mono ?_
  rintro e W3 ⟨Q, rfl, hq, hk⟩
  replace S := S.below hk
  clear hk HROW hcap
  by_cases h0 : lstC qs = 0
  · rw [if_pos h0] at hq
    obtain ⟨b, A1, n1, c1, d, B1, m1, e1, rfl⟩ := hq.open_
    replace S := S.addQ hq
    have HL := Lib.hid h0
    rw [h0]
    clear h0 hq
    have r0_0 := S.c 0 0 rfl rfl
    have r0_1 := S.c 0 1 rfl rfl
    have r0_2 := S.c 0 2 rfl rfl
    have r0_3 := S.c 0 3 rfl rfl
    have f0_0 := S.f 0 0 rfl
    have f0_1 := S.f 0 1 rfl
    have f0_2 := S.f 0 2 rfl
    have f0_3 := S.f 0 3 rfl
    go_wp2
    replace S := S.put4 0 rfl rfl rfl (x' := .bool b) (y' := .slice A1 n1 c1) (z' := .bool d) (u' := .slice B1 m1 e1)
    refine bodyPost_ret (v := .tuple #[.agg #[.bool b, .slice A1 n1 c1, .bool d, .slice B1 m1 e1], .int .i64 0]) (by simp [results, Tryz.results69, go_sem, S.c 0 0 rfl rfl, S.c 0 1 rfl rfl, S.c 0 2 rfl rfl, S.c 0 3 rfl rfl]) rfl ?_
    refine ⟨_, by rw [HL.out], ?_, S.k⟩
    rw [HL.out, if_pos rfl]
    exact S.qi 0 rfl
  · rw [if_neg h0] at hq
    unfold zeroRat at hq
    subst hq
    have h6 : lstC qs = 6 := by unfold lstC at h0 ⊢; split at h0 <;> simp_all
    have HL := Lib.hid h6
    rw [h6]
    clear h0 h6
    have r0_0 := S.c 0 0 rfl rfl
    have r0_1 := S.c 0 1 rfl rfl
    have r0_2 := S.c 0 2 rfl rfl
    have r0_3 := S.c 0 3 rfl rfl
    have f0_0 := S.f 0 0 rfl
    have f0_1 := S.f 0 1 rfl
    have f0_2 := S.f 0 2 rfl
    have f0_3 := S.f 0 3 rfl
    go_wp2
    replace S := S.put4 0 rfl rfl rfl (x' := .bool false) (y' := .slice none 0 0) (z' := .bool false) (u' := .slice none 0 0)
    refine bodyPost_ret (v := .tuple #[.agg #[.bool false, .slice none 0 0, .bool false, .slice none 0 0], .int .i64 6]) (by simp [results, Tryz.results69, go_sem, S.c 0 0 rfl rfl, S.c 0 1 rfl rfl, S.c 0 2 rfl rfl, S.c 0 3 rfl rfl]) rfl ?_
    refine ⟨_, by rw [HL.out], ?_, S.k⟩
    rw [HL.out, if_neg (by decide)]
    rfl
set_option maxRecDepth 100000 in
set_option maxHeartbeats 1000000 in
theorem fgreat_any {w : World} {A : Option Addr} {c : Nat} {qs : List Rat} (hr : Row4 RatNum w A qs) (hz : ∀ q ∈ qs, szR q ≤ 8) (hn : qs.length ≤ 8) :
    Calls Tryz.prog 71 #[.slice A qs.length c] w (RCode (lstC qs) (maxL qs) w) := by
  have HR := Lib.hid hr
  have hz2 : ∀ q ∈ qs, szR q ≤ 100 := fun q hq => by have := hz q hq; omega
  have HZ := Lib.hid hz2
  have S := (St.start w).alloc 28 [.bool false, .slice none 0 0, .bool false, .slice none 0 0]
  clear hr hz hz2
  go_enter Tryz.func71, Tryz.ntmps71
  go_wp2_with fail
  obtain ⟨W1, eW, S⟩ := S.pack
  rw [eW]
  clear eW
  refine (fvalues_any (HR.out.below lasts_num S.k) hn).mono ?_
  rintro e W2 ⟨V, rfl, ⟨xs, hown, hel⟩, hk⟩
  obtain ⟨g, cap, rfl, hcap, hcm, hrow⟩ := hown.row4 hel
  replace S := S.below hk
  have HROW := Lib.hid hrow
  clear hk hown hel hrow hcm
  go_wp2_with fail
  refine (extG_row HROW.out HZ.out hn hcap).mono ?_
  rintro e W3 ⟨Q, rfl, hq, hk⟩
  replace S := S.below hk
  clear hk HROW hcap
  by_cases h0 : lstC qs = 0
  · rw [if_pos h0] at hq
    obtain ⟨b, A1, n1, c1, d, B1, m1, e1, rfl⟩ := hq.open_
    replace S := S.addQ hq
    have HL := Lib.hid h0
    rw [h0]
    clear h0 hq
    have r0_0 := S.c 0 0 rfl rfl
    have r0_1 := S.c 0 1 rfl rfl
    have r0_2 := S.c 0 2 rfl rfl
    have r0_3 := S.c 0 3 rfl rfl
    have f0_0 := S.f 0 0 rfl
    have f0_1 := S.f 0 1 rfl
    have f0_2 := S.f 0 2 rfl
    have f0_3 := S.f 0 3 rfl
    go_wp2
    replace S := S.put4 0 rfl rfl rfl (x' := .bool b) (y' := .slice A1 n1 c1) (z' := .bool d) (u' := .slice B1 m1 e1)
    refine bodyPost_ret (v := .tuple #[.agg #[.bool b, .slice A1 n1 c1, .bool d, .slice B1 m1 e1], .int .i64 0]) (by simp [results, Tryz.results71, go_sem, S.c 0 0 rfl rfl, S.c 0 1 rfl rfl, S.c 0 2 rfl rfl, S.c 0 3 rfl rfl]) rfl ?_
    refine ⟨_, by rw [HL.out], ?_, S.k⟩
    rw [HL.out, if_pos rfl]
    exact S.qi 0 rfl
  · rw [if_neg h0] at hq
    unfold zeroRat at hq
    subst hq
    have h6 : lstC qs = 6 := by unfold lstC at h0 ⊢; split at h0 <;> simp_all
    have HL := Lib.hid h6
    rw [h6]
    clear h0 h6
    have r0_0 := S.c 0 0 rfl rfl
    have r0_1 := S.c 0 1 rfl rfl
    have r0_2 := S.c 0 2 rfl rfl
    have r0_3 := S.c 0 3 rfl rfl
    have f0_0 := S.f 0 0 rfl
    have f0_1 := S.f 0 1 rfl
    have f0_2 := S.f 0 2 rfl
    have f0_3 := S.f 0 3 rfl
    go_wp2
    replace S := S.put4 0 rfl rfl rfl (x' := .bool false) (y' := .slice none 0 0) (z' := .bool false) (u' := .slice none 0 0)
    refine bodyPost_ret (v := .tuple #[.agg #[.bool false, .slice none 0 0, .bool false, .slice none 0 0], .int .i64 6]) (by simp [results, Tryz.results71, go_sem, S.c 0 0 rfl rfl, S.c 0 1 rfl rfl, S.c 0 2 rfl rfl, S.c 0 3 rfl rfl]) rfl ?_
    refine ⟨_, by rw [HL.out], ?_, S.k⟩
    rw [HL.out, if_neg (by decide)]
    rfl
end Go.Proofs.YtmochehkkadjnaaGreatDoor
