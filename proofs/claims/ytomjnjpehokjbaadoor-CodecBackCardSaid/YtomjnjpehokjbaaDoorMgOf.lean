/- The walks of Of and of the reference's Of. Rows of ints; slices.Equal of them. codec.OfInts: the walk. The walk of Small. codec.ToInts: the walk. The chapter's example, plainly. No program in sight. -/
import Derived.Test.YtomjnjpehokjbaaDoorMgIntA
import Derived.Test.YtomjnjpehokjbaaDoorShelf
import Derived.Test.YtomjnjpehokjbaaDoorMgNum
import Derived.Test.YtomjnjpehokjbaaDoorMgVal3
import Derived.Deep.RegionLawGrows
import Derived.Test.YtomjnjpehokjbaaDoorMgRdr
namespace Go.Proofs.YtomjnjpehokjbaaDoor
open Go.RowKit Go.Shelf

theorem wrap_neg (z : Int) (h1 : -9223372036854775808 ≤ z) (h2 : z < 0) : IntKind.u64.wrap (-IntKind.u64.wrap z) = ((z.natAbs : Nat) : Int) := by
  rw [IntKind.wrap_u64, IntKind.wrap_u64]; omega
theorem sgn_abs (z : Int) : sgn (decide (z < 0)) z.natAbs = z := by
  unfold sgn; split <;> simp_all <;> omega

set_option maxRecDepth 100000 in
set_option maxHeartbeats 400000 in
theorem of_any (z : Int) (w : World) (h1 : -9223372036854775808 ≤ z) (h2 : z ≤ 9223372036854775807) :
    Calls Tryd.prog 44 #[.int .i64 z] w fun e w' => ∃ V, e = .returned V ∧ IntRep w' V z ∧ Keeps w w' := by
  have hR := Own.new w 25 [.bool false, .slice none 0 0]
  have hk := box2 w (.cells #[.bool false, .slice none 0 0] 25)
  have HA := Lib.hid (sgn_abs z)
  by_cases hz : z < 0
  · have HW := Lib.hid (wrap_neg z h1 hz)
    have HD := Lib.hid (decide_eq_true hz)
    go_enter Tryd.func44, Tryd.ntmps44
    go_wp2_with fail
    rw [HW.out]
    refine (split_any z.natAbs _ (by omega)).mono ?_
    rintro e w1 ⟨v1, rfl, hv1, hk1⟩
    go_wp2_with fail
    refine (made_d true v1 _ _ hv1).mono ?_
    rintro e w3 ⟨V3, rfl, hr3, hk3⟩
    rw [show sgn true z.natAbs = z by rw [← HD.out]; exact HA.out] at hr3
    have hR3 := (hR.below hk1).below hk3
    have hk' := (hk.trans' hk1).trans' hk3
    obtain ⟨A3, n3, c3, rfl, hv3⟩ := hr3.open_
    rw [HD.out] at hr3 ⊢
    have r0 := hR3.c0
    have r1 := hR3.c1
    have f0 := hR3.frozen 0
    have f1 := hR3.frozen 1
    go_wp2
    have hR4 := hR3.two (.bool true) (.slice A3 n3 c3)
    refine bodyPost_ret (v := .agg #[.bool true, .slice A3 n3 c3]) (by simp [results, Tryd.results44, go_sem, hR4.c0, hR4.c1]) rfl ?_
    exact ⟨_, rfl, hr3.two hR3 rfl rfl rfl, (hk'.set (by simp) _).set (by simp) _⟩
  · have hz' : 0 ≤ z := by omega
    have HD := Lib.hid (decide_eq_false hz)
    obtain ⟨m, rfl⟩ := Int.eq_ofNat_of_zero_le hz'
    go_enter Tryd.func44, Tryd.ntmps44
    go_wp2_with fail
    refine (split_any m _ (by omega)).mono ?_
    rintro e w1 ⟨v1, rfl, hv1, hk1⟩
    go_wp2_with fail
    refine (made_d false v1 _ _ hv1).mono ?_
    rintro e w3 ⟨V3, rfl, hr3, hk3⟩
    rw [show sgn false m = (m : Int) by rfl] at hr3
    have hR3 := (hR.below hk1).below hk3
    have hk' := (hk.trans' hk1).trans' hk3
    obtain ⟨A3, n3, c3, rfl, hv3⟩ := hr3.open_
    rw [HD.out] at hr3 ⊢
    have r0 := hR3.c0
    have r1 := hR3.c1
    have f0 := hR3.frozen 0
    have f1 := hR3.frozen 1
    go_wp2
    have hR4 := hR3.two (.bool false) (.slice A3 n3 c3)
    refine bodyPost_ret (v := .agg #[.bool false, .slice A3 n3 c3]) (by simp [results, Tryd.results44, go_sem, hR4.c0, hR4.c1]) rfl ?_
    exact ⟨_, rfl, hr3.two hR3 rfl rfl rfl, (hk'.set (by simp) _).set (by simp) _⟩

end Go.Proofs.YtomjnjpehokjbaaDoor

namespace Go.Proofs.YtomjnjpehokjbaaDoor
open Go.RowKit Go.Shelf

/-- the j-th of a row of ints -/
def iv (l : List Int) (j : Nat) : Value := .int .i64 (l.getD j 0)
abbrev IRow (w : World) (A : Option Addr) (l : List Int) : Prop := Row w A l.length (iv l)
def i64s (l : List Int) : List Value := l.map fun x => .int .i64 x
theorem i64s_length (l : List Int) : (i64s l).length = l.length := by simp [i64s]
theorem i64s_snoc (l : List Int) (x : Int) : i64s (l ++ [x]) = i64s l ++ [.int .i64 x] := by simp [i64s]
theorem i64s_get (l : List Int) (j : Nat) (h : j < l.length) : (i64s l)[j]? = some (iv l j) := by simp [i64s, iv, List.getD, h]
theorem IRow.at {w : World} {A : Option Addr} {l : List Int} (h : IRow w A l) {j : Nat} (hj : j < l.length) : ∃ b o, A = some ⟨b, o, none⟩ ∧ w.cell? ⟨b, o + j, none⟩ = some (.int .i64 (l.getD j 0)) := by
  obtain ⟨b, o, e, -, hc⟩ := h (by omega)
  exact ⟨b, o, e, hc j hj⟩
theorem IRow.of_own {w : World} {base : Nat} {A : Option Addr} {n c : Nat} {l : List Int} (h : w.ownsRow base 3 1 (.slice A n c) n (i64s l)) (hn : n = l.length) : IRow w A l := by
  subst hn
  obtain ⟨hl, ⟨e, h0⟩ | ⟨g, cap, cur, e, hb, hg, h1, h2, h3, h4⟩⟩ := h
  · exact fun hp => absurd h0 (by omega)
  · cases e
    refine fun hp => ⟨g, 0, rfl, (Array.getElem?_eq_some_iff.1 hg).1, fun j hj => ?_⟩
    rw [Nat.zero_add, cell_of_row w g j cur 3 (0, 0) hg]
    have := i64s_get l j hj
    rw [← h4, List.getElem?_take] at this
    split at this
    · simpa using this
    · cases this
theorem info_int : (Tryd.prog.info? 3).map (fun i => (i.zero, i.size, i.bytes)) = some (some (.int .i64 0), 1, 8) := by kernel_rfl
theorem equalI_any {w : World} {A B : Option Addr} {xs ys : List Int} {n m c d : Nat} (hA : IRow w A xs) (hB : IRow w B ys) (hn : n = xs.length) (hm : m = ys.length) (hl : xs.length ≤ maxLen) (hl' : ys.length ≤ maxLen) :
    Calls Tryd.prog 25 #[.slice A n c, .slice B m d] w fun e w' => e = .returned (.bool (decide (xs = ys))) ∧ Keeps w w' := by
  subst hn hm
  simp only [maxLen] at hl hl'
  by_cases h0 : xs.length = 0
  · obtain rfl := List.length_eq_zero_iff.1 h0
    refine (Tryd.slices_Equal_int_empty A B c ys.length d w (by omega)).mono ?_
    rintro e w' ⟨rfl, rfl⟩
    refine ⟨?_, Below.refl _ _⟩
    congr 2
    cases ys <;> simp
  · by_cases h1 : xs.length = ys.length
    · obtain ⟨b1, o1, rfl, -, c1⟩ := hA (by omega)
      obtain ⟨b2, o2, rfl, -, c2⟩ := hB (by omega)
      refine (Tryd.slices_Equal_int b1 o1 xs.length c b2 o2 ys.length d xs ys w (Nat.le_refl _) (Nat.le_refl _) (by omega) (by omega) c1 c2).mono ?_
      rintro e w' ⟨rfl, q, rfl⟩
      refine ⟨?_, below_drewN (Below.refl _ _) q⟩
      congr 2
      rw [List.take_length, List.take_length]
      by_cases h : xs = ys
      · subst h; simp
      · simp [h]
    · refine (Tryd.slices_Equal_int_lens A B xs.length c ys.length d w h1).mono ?_
      rintro e w' ⟨rfl, rfl⟩
      refine ⟨?_, Below.refl _ _⟩
      congr 2
      exact (decide_eq_false fun h => h1 (by rw [h])).symm
end Go.Proofs.YtomjnjpehokjbaaDoor

namespace Go.Proofs.YtomjnjpehokjbaaDoor
open Go.RowKit Go.Shelf
theorem step_append_cln {P : Program} {w : World} {ops : Array Oper} {o : Oper} {a : Act} {K : Act → World → Prop} {Q : Exit → Act → World → Prop} {E : Prop} (hgd : o.guard = none) (s x : Operand) (t : TypeId)
    (ho : o.op = .call { callee := .builtin .append, args := #[s, x], argTypes := #[t, t] })
    (base : Nat) (e : TypeId) (i : TypeInfo) (z : Value) (size bytes : Nat) (ht : P.underlying t = some (.slice e)) (hi : P.info? e = some i) (hz : i.zero = some z)
    (hsize : i.size = size) (hby : i.bytes = bytes) (hzs : z.cells.size = size) (hzc : z.cells.toList.all noU32 = true)
    (v : Value) (n : Nat) (xs : List Value) (hs : a.eval s = v) (hown : OwnsC w base e size v n xs)
    (ad : Addr) (m c : Nat) (news : List Value) (hx : a.eval x = .slice (some ad) m c) (hl : news.length = m * size) (hm0 : 0 < m) (hnews : ∀ j u, news[j]? = some u → w.cell? (ad.add j) = some u) (h1 : ∀ u ∈ news, u.oneCell' = true) (hnc : news.all noU32 = true)
    (h63 : n + m ≤ maxLen) (hbytes : (n + m) * bytes ≤ 140737488355328) (hbase : base ≤ w.heap.size)
    (h : ∀ v' w', OwnsC w' base e size v' (n + m) (xs ++ news) → w.grownBy w' v.ownBlock → (v'.ownBlock = v.ownBlock ∨ v'.ownBlock = some w.heap.size) → K (a.put o.dst v') w') :
    if Region.wanted o (yielded ops a.tmps) = true then Oper.wp P o a w K Q else E := by
  have hw : Region.wanted o (yielded ops a.tmps) = true := by simp [Region.wanted, hgd]
  rw [if_pos hw]
  obtain ⟨v', w', hr, h2, h3, h4⟩ := run_append_cln (P := P) w base t o.type e i z size bytes ht hi hz hsize hby hzs hzc v n xs hown ad m c news hl hm0 hnews h1 hnc h63 hbytes hbase
  unfold Oper.wp execOp
  simp only [ho, resolve, invoke, builtin, Sem.run_bind, Sem.run_pure, Result.andThen_ok, List.map_toArray, List.map_cons, List.map_nil, hs, hx, hr]
  exact h v' w' h2 h3 h4
theorem lenI_i64 {z : Int} (h1 : -9223372036854775808 ≤ z) (h2 : z ≤ 9223372036854775807) : (dig z.natAbs).length ≤ 3 := by
  refine dig_length_le ?_
  have : (1000000000 : Nat) ^ 3 = 1000000000000000000000000000 := by decide
  omega
/-- an integer's value in memory -/
theorem valC_int {w : World} {z : Int} {A : Option Addr} {n c N : Nat} (h : IntRep w (.agg #[.bool (decide (z < 0)), .slice A n c]) z) (hl : (dig z.natAbs).length ≤ N) : ValC (fun _ => False) N w (intT z) [.int .i64 0, .bool (decide (z < 0)), .slice A n c, .slice none 0 0, .slice none 0 0] := by
  obtain ⟨v, e, hu⟩ := h
  simp only [Value.agg.injEq, Array.mk.injEq, List.cons.injEq, true_and, and_true] at e
  subst e
  exact ValC.make ⟨hl, by simp, by simp⟩ hu SlK.nil ⟨by simp, by simp [maxLen], fun _ => rfl⟩ ElsC.nil
/-- a value that is handed back -/
def GivesV (t : Tr) (w : World) (e : Ending) (w' : World) : Prop := ∃ cs, e = .returned (.agg cs.toArray) ∧ ValC anyB 70000 w' t cs ∧ Keeps w w'
/-- what a round keeps -/
def OfInv (w : World) (l : List Int) (i : Value) (wr : World) : Prop :=
  ∃ (k : Nat) (A : Option Addr) (c : Nat), k ≤ l.length ∧ i = .int .i64 (k : Nat) ∧ Own wr w.heap.size 29 [.int .i64 0, .bool false, .slice none 0 0, .slice none 0 0, .slice none 0 0] ∧
    Own wr (w.heap.size + 1) 29 [.int .i64 2, .bool false, .slice none 0 0, .slice none 0 0, .slice A k c] ∧ RowV 70000 wr (w.heap.size + 1 + 1) (.slice A k c) ((l.take k).map intT) ∧ Keeps w wr
set_option maxRecDepth 100000 in
set_option maxHeartbeats 4000000 in
theorem ofInts_any {w : World} {A : Option Addr} {c : Nat} {l : List Int} (hr : IRow w A l) (hz : ∀ x ∈ l, -9223372036854775808 ≤ x ∧ x ≤ 9223372036854775807) (hl : l.length ≤ 60) :
    Calls Tryd.prog 24 #[.slice A l.length c] w (GivesV (lstT (l.map intT)) w) := by
  obtain ⟨i0, hi, hz0, hz1, hz2⟩ := info_parts info_val
  have hlI : (l.length : Int) ≤ 60 := by omega
  go_enter Tryd.func24, Tryd.ntmps24
  go_upto_region 2 with fail
  obtain ⟨W0, hW0⟩ : ∃ W0, (w.alloc (.cells #[.int .i64 0, .bool false, .slice none 0 0, .slice none 0 0, .slice none 0 0] 29)).alloc (.cells #[.int .i64 2, .bool false, .slice none 0 0, .slice none 0 0, .slice none 0 0] 29) = W0 := ⟨_, rfl⟩
  rw [hW0]
  have hk0 : Keeps w W0 := hW0 ▸ keep2 w _ _
  have q0 : Own W0 w.heap.size 29 [.int .i64 0, .bool false, .slice none 0 0, .slice none 0 0, .slice none 0 0] := hW0 ▸ (Own.new w _ _).alloc _
  have p0 : Own W0 (w.heap.size + 1) 29 [.int .i64 2, .bool false, .slice none 0 0, .slice none 0 0, .slice none 0 0] := hW0 ▸ own2 w _ _ _
  have hinv : OfInv w l (.int .i64 ((0 : Nat) : Int)) W0 := ⟨0, none, 0, Nat.zero_le _, rfl, q0, p0, RowV.nil, hk0⟩
  have HI0 := Lib.hid hinv
  have HR := Lib.hid hr
  have HZ := Lib.hid hz
  clear hinv hk0 q0 p0 hW0 hr hz
  go_wp2
  go_loopw [9] (fun i wr => OfInv w l i wr) (fun i _ => l.length - (intOf i).toNat)
  case atStart => exact HI0.out
  case round =>
    clear HI0
    obtain ⟨k, A1, c1, hkl, rfl, q, p, hrow, hkw⟩ := hrel
    have hwsz := p.lt
    by_cases hlt : k < l.length
    · have hkI : (k : Int) < l.length := by omega
      obtain ⟨b, o, rfl, hx⟩ := IRow.at (HR.out.below hkw) hlt
      have hxz : -9223372036854775808 ≤ l.getD k 0 ∧ l.getD k 0 ≤ 9223372036854775807 := by
        have : l.getD k 0 = l[k] := by simp [List.getD, hlt]
        rw [this]
        exact HZ.out _ (List.getElem_mem hlt)
      have htk : (l.take (k + 1)).map intT = (l.take k).map intT ++ [intT (l.getD k 0)] := by
        rw [List.take_succ_eq_append_getElem hlt, List.map_append]
        simp [List.getD, hlt]
      have HTK := Lib.hid htk
      have hacc : ((l.take k).map intT).length = k := by rw [List.length_map, List.length_take, Nat.min_eq_left hkl]
      have HACC := Lib.hid hacc
      generalize l.getD k 0 = x at *
      generalize (l.take k).map intT = acc at *
      have HOF := Lib.hid (of_any x wr.drew hxz.1 hxz.2)
      have hln := lenI_i64 hxz.1 hxz.2
      have x4 := p.cell 4
      simp only [List.getElem?_cons_zero, List.getElem?_cons_succ] at x4
      have hrowd : RowV 70000 wr.drew (w.heap.size + 1 + 1) (.slice A1 k c1) acc := hrow.same (fun _ _ _ => rfl) (fun _ _ h => h)
      have HROW := Lib.hid hrowd
      have hrb := hrow.blk
      clear hacc htk hrow hrowd
      go_wp2
      go_region_law (first
        | (go_simp; go_at_call 44; refine HOF.out.mono ?_; rintro e w1 ⟨V, rfl, hV, hk1⟩; obtain ⟨A2, n2, c2, rfl, -⟩ := hV.open_; have p1 := (Own.drew p).below hk1; have y4 := p1.cell 4; have y5 := (p1.alloc (.cells #[.int .i64 0, .bool (decide (x < 0)), .slice A2 n2 c2, .slice none 0 0, .slice none 0 0] 29)).cell 4; simp only [List.getElem?_cons_zero, List.getElem?_cons_succ] at y4 y5; have hk2 := hk1.trans' (box2 w1 (.cells #[.int .i64 0, .bool (decide (x < 0)), .slice A2 n2 c2, .slice none 0 0, .slice none 0 0] 29)); obtain ⟨xs, hown, hels⟩ := HROW.out.keep hk2; have hown0 := hown; rewrite [HACC.out] at hown; have HOWN := Lib.hid hown; have hbs : w.heap.size + 1 + 1 ≤ w1.heap.size := (by have := p1.lt; omega); clear hown; go_simp)
        | (refine step_append_cln (by rfl) _ _ 27 (by rfl) (w.heap.size + 1 + 1) 29 i0 (.agg #[.int .i64 0, .bool false, .slice none 0 0, .slice none 0 0, .slice none 0 0]) 5 88 Tryd.underlying27 hi hz0 hz1 hz2 rfl rfl (.slice A1 k c1) k xs (by rfl) HOWN.out ⟨w1.heap.size, 0, none⟩ 1 1 [.int .i64 0, .bool (decide (x < 0)), .slice A2 n2 c2, .slice none 0 0, .slice none 0 0] (by rfl) rfl (by decide) (own_cellsV (Own.new w1 _ _)) (by simp [Value.oneCell']) rfl (by simp only [maxLen]; omega) (by omega) (by simp; omega) ?_; intro V' w6 hown6 hgrow hat; obtain ⟨A6, c6, rfl, -⟩ := hown6.1.sl; have p6 := (p1.alloc (.cells #[.int .i64 0, .bool (decide (x < 0)), .slice A2 n2 c2, .slice none 0 0, .slice none 0 0] 29)).grown hgrow (fun e => by have := (hown0.blk _ e.symm).1; omega); have x6 := p6.cell 4; have f6 := p6.frozen 4; simp only [List.getElem?_cons_zero, List.getElem?_cons_succ] at x6))
      all_goals
        have hv5 : ValC (fun g => w.heap.size + 1 + 1 ≤ g ∧ some g ≠ (Value.slice A1 k c1).ownBlock) 70000 (w1.alloc (.cells #[.int .i64 0, .bool (decide (x < 0)), .slice A2 n2 c2, .slice none 0 0, .slice none 0 0] 29)) (intT x) [.int .i64 0, .bool (decide (x < 0)), .slice A2 n2 c2, .slice none 0 0, .slice none 0 0] := (valC_int (hV.below (box2 w1 _)) (by omega)).mono (fun _ h _ => h.elim)
        have r6 : RowV 70000 w6 (w.heap.size + 1 + 1) (.slice A6 (k + 1) c6) (acc ++ [intT x]) := RowV.grow (l := acc) hown0 hels hv5 (by rw [HACC.out]; exact hown6) hgrow hat
        have q6 := (((Own.drew q).below hk1).alloc (.cells #[.int .i64 0, .bool (decide (x < 0)), .slice A2 n2 c2, .slice none 0 0, .slice none 0 0] 29)).grown hgrow (fun e => by have := (hown0.blk _ e.symm).1; omega)
        have q7 := q6.far (p := ⟨w.heap.size + 1, 4, none⟩) (by simp only; omega) (.slice A6 (k + 1) c6)
        have s7 := same32_set p6 rfl 4 (.slice A6 (k + 1) c6)
        have r7 := r6.put (p := ⟨w.heap.size + 1, 4, none⟩) (by simp only; omega) (.slice A6 (k + 1) c6) s7
        have p7 := p6.set 4 (.slice A6 (k + 1) c6)
        have hk6 : Keeps w w6 := ((Keeps.trans' (Below.drew hkw) hk2)).grown hgrow (Keeps.trans' (Below.drew hkw) hk2).size (fun g e => by have := (hown0.blk _ e).1; omega)
        have hk7 := hk6.set (p := ⟨w.heap.size + 1, 4, none⟩) (by simp only; omega) (.slice A6 (k + 1) c6)
        rw [← HTK.out] at r7
        have hrel2 : OfInv w l (.int .i64 ((k + 1 : Nat) : Int)) (w6.setCell ⟨w.heap.size + 1, 4, none⟩ (.slice A6 (k + 1) c6)) := ⟨k + 1, A6, c6, by omega, rfl, q7, p7, r7, hk7⟩
        have HREL := Lib.hid hrel2
        clear hrel2 q7 p7 r7 hk7 s7 r6 hv5
        go_wp2
        go_roundw
        case rel => exact HREL.out
        case measure => simp [intOf]; omega
    · have hkl2 : (l.length : Int) ≤ k := by omega
      have hdk : decide ((k : Int) < (l.length : Int)) = false := decide_eq_false (by omega)
      rw [List.take_of_length_le (by omega)] at hrow
      have hrow2 := hrow
      have HROW := Lib.hid hrow2
      have hke : k = l.length := by omega
      have HKE := Lib.hid hke
      clear hrow hrow2 hlt hke
      have p0 := p.cell 0
      have p1 := p.cell 1
      have p2 := p.cell 2
      have p3 := p.cell 3
      have p4 := p.cell 4
      simp only [List.getElem?_cons_zero, List.getElem?_cons_succ] at p0 p1 p2 p3 p4
      have x0 := q.cell 0
      have x1 := q.cell 1
      have x2 := q.cell 2
      have x3 := q.cell 3
      have x4 := q.cell 4
      have f0 := q.frozen 0
      have f1 := q.frozen 1
      have f2 := q.frozen 2
      have f3 := q.frozen 3
      have f4 := q.frozen 4
      simp only [List.getElem?_cons_zero, List.getElem?_cons_succ] at x0 x1 x2 x3 x4
      go_wp2
      have r5 := q.put5 (a := .int .i64 2) (x := .bool false) (y := .slice none 0 0) (z := .slice none 0 0) (v := .slice A1 k c1)
      have r0 := r5.cell 0
      have r1 := r5.cell 1
      have r2 := r5.cell 2
      have r3 := r5.cell 3
      have r4 := r5.cell 4
      simp only [List.getElem?_cons_zero, List.getElem?_cons_succ] at r0 r1 r2 r3 r4
      refine bodyPost_ret (v := .agg #[.int .i64 2, .bool false, .slice none 0 0, .slice none 0 0, .slice A1 k c1]) (by simp [results, Tryd.results24, go_sem, r0, r1, r2, r3, r4]) rfl ?_
      obtain ⟨A', c', e, hcap, hE⟩ := HROW.out.els
      rw [List.length_map, ← HKE.out] at e
      cases e
      have hsame := set5_same32 (a := .int .i64 2) (x := .bool false) (y := .slice none 0 0) (z := .slice none 0 0) (v := .slice A1 k c1) q rfl rfl
      have hE2 : ElsC anyB 70000 (set5 wr w.heap.size (.int .i64 2) (.bool false) (.slice none 0 0) (.slice none 0 0) (.slice A1 k c1)) A1 (l.map intT) := hE.map (fun g hg _ => set5_block wr w.heap.size _ _ _ _ _ (by simp only [newB] at hg; omega)) hsame (fun _ _ _ => trivial) (Nat.le_refl _)
      have hmk := ValC.make (k := 2) (n := false) (g := []) (x := []) (N := 70000) (ok := anyB) (G := .slice none 0 0) (T := .slice none 0 0) (l := l.map intT) (L := A1) (c := c1) ⟨by simp, by simp, by rw [List.length_map]; omega⟩ U32.nil SlK.nil hcap hE2
      rw [List.length_map, ← HKE.out] at hmk
      exact ⟨_, rfl, hmk, keeps5 hkw (Nat.le_refl _) _ _ _ _ _⟩
end Go.Proofs.YtomjnjpehokjbaaDoor

namespace Go.Proofs.YtomjnjpehokjbaaDoor
open Go.RowKit Go.Shelf
attribute [local go_sem] Oper.semAt_some

/-- what Small answers -/
def smallV (z : Int) : Value := if -9223372036854775808 ≤ z ∧ z ≤ 9223372036854775807 then .tuple #[.int .i64 z, .bool true] else .tuple #[.int .i64 0, .bool false]
theorem smallV_in {z : Int} (h : -9223372036854775808 ≤ z ∧ z ≤ 9223372036854775807) : smallV z = .tuple #[.int .i64 z, .bool true] := if_pos h
theorem smallV_out {z : Int} (h : ¬ (-9223372036854775808 ≤ z ∧ z ≤ 9223372036854775807)) : smallV z = .tuple #[.int .i64 0, .bool false] := if_neg h
def top63 : Nat := 9223372036854775808
theorem small_ok (N d : Nat) (_hd : d < 1000000000) (h : N * 1000000000 + d ≤ top63) : decide (((9223372036854775808 : Int) - (d : Nat)) / 1000000000 < ((N : Nat) : Int)) = false := by
  unfold top63 at h; exact decide_eq_false (by omega)
theorem small_over (N d : Nat) (_hd : d < 1000000000) (h : ¬ N * 1000000000 + d ≤ top63) : decide (((9223372036854775808 : Int) - (d : Nat)) / 1000000000 < ((N : Nat) : Int)) = true := by
  unfold top63 at h; exact decide_eq_true (by omega)
theorem small_bd (N d : Nat) (h : N * 1000000000 + d ≤ top63) : ((N : Nat) : Int) ≤ 9223372036 := by unfold top63 at h; omega

theorem small_neg (m : Nat) (h : m ≤ top63) : wrap64 (IntKind.u64.wrap (-(m : Int))) = -(m : Int) := by
  unfold top63 at h; unfold wrap64; rw [IntKind.wrap_u64]; omega

set_option maxRecDepth 100000 in
set_option maxHeartbeats 400000 in
theorem small_long (neg : Bool) (xs : List Nat) (V : Value) (w : World) (h : IntArg w V neg xs) (hm : xs.length ≤ 1000000) (h3 : 3 < (dig (mag neg xs)).length) :
    Calls Tryd.prog 43 #[V] w fun e w' => e = .returned (.tuple #[.int .i64 0, .bool false]) ∧ Keeps w w' := by
  obtain ⟨v, rfl, hv⟩ := h
  have hml := mag_length neg xs
  have hkk := keep3 w (.cells #[.bool neg, v] 25) (.cells #[.int .i64 0] 3) (.cells #[.bool false] 4)
  have hG := Lib.hid (groups_any neg xs (.agg #[.bool neg, v]) _ ⟨v, rfl, hv.below hkk⟩ hm)
  have hX := ((Own.new w 25 [.bool neg, v]).alloc (.cells #[.int .i64 0] 3)).alloc (.cells #[.bool false] 4)
  have hP := (own2 w (.cells #[.bool neg, v] 25) 3 [.int .i64 0]).alloc (.cells #[.bool false] 4)
  have hQ := own3 w (.cells #[.bool neg, v] 25) (.cells #[.int .i64 0] 3) 4 [.bool false]
  have HC := Lib.hid (show cnt neg xs = sgn neg (mag neg xs) from rfl)
  generalize mag neg xs = m at *
  go_enter Tryd.func43, Tryd.ntmps43
  go_wp2_with fail
  refine hG.out.mono ?_
  rintro e w1 ⟨v1, rfl, hv1, hk1⟩
  obtain ⟨A, n, c, rfl, e1, -, -, -, hr1⟩ := hv1.open_
  have h3' : (3 : Int) < n := by omega
  have HE := Lib.hid e1
  clear e1
  have hP1 := hP.below hk1
  have hQ1 := hQ.below hk1
  have p0 := hP1.c0
  have p1 := hP1.frozen 0
  have q0 := hQ1.c0
  have q1 := hQ1.frozen 0
  have hk2 := hkk.trans' hk1
  go_wp2
  have hP2 := (hP1.set 0 (.int .i64 0)).far (p := ⟨w.heap.size + 1 + 1, 0, none⟩) (by simp) (.bool false)
  have hQ2 := (hQ1.far (p := ⟨w.heap.size + 1, 0, none⟩) (by simp) (.int .i64 0)).set 0 (.bool false)
  refine bodyPost_ret (v := .tuple #[.int .i64 0, .bool false]) (by simp [results, Tryd.results43, go_sem, hP2.cell 0, hQ2.cell 0]) rfl ?_
  exact ⟨rfl, (hk2.set (by simp) _).set (by simp; omega) _⟩

set_option maxRecDepth 100000 in
set_option maxHeartbeats 1000000 in
theorem small_short (neg : Bool) (xs : List Nat) (V : Value) (w : World) (h : IntArg w V neg xs) (hm : xs.length ≤ 1000000) (h3 : (dig (mag neg xs)).length ≤ 3) :
    Calls Tryd.prog 43 #[V] w fun e w' => e = .returned (smallV (cnt neg xs)) ∧ Keeps w w' := by
  obtain ⟨v, rfl, hv⟩ := h
  have hml := mag_length neg xs
  have hkk := keep3 w (.cells #[.bool neg, v] 25) (.cells #[.int .i64 0] 3) (.cells #[.bool false] 4)
  have hG := Lib.hid (groups_any neg xs (.agg #[.bool neg, v]) _ ⟨v, rfl, hv.below hkk⟩ hm)
  have hX := ((Own.new w 25 [.bool neg, v]).alloc (.cells #[.int .i64 0] 3)).alloc (.cells #[.bool false] 4)
  have hP := (own2 w (.cells #[.bool neg, v] 25) 3 [.int .i64 0]).alloc (.cells #[.bool false] 4)
  have hQ := own3 w (.cells #[.bool neg, v] 25) (.cells #[.int .i64 0] 3) 4 [.bool false]
  have HC := Lib.hid (show cnt neg xs = sgn neg (mag neg xs) from rfl)
  refine (callsIn_wide (n := 4)).1 ?_
  refine callsIn_of_wp_marks Tryd.func43 rfl trivial ?_ rfl
  simp only [Tryd.ntmps43, List.size_toArray, List.length_cons, List.length_nil, Nat.reduceAdd, Nat.reduceSub, Array.replicate_succ, Array.replicate_zero, List.push_toArray, List.append_toArray, List.nil_append, List.cons_append]
  generalize mag neg xs = m at *
  gi_wp2_with fail
  refine ⟨trivial, ?_⟩
  refine (callsIn_wide.2 hG.out).mono ?_
  rintro e w1 ⟨v1, rfl, hv1, hk1⟩
  obtain ⟨A, n, c, rfl, e1, -, -, -, hr1⟩ := hv1.open_
  have h3' : (n : Int) ≤ 3 := by omega
  have hX1 := hX.below hk1
  have hP1 := hP.below hk1
  have hQ1 := hQ.below hk1
  have hk2 := hkk.trans' hk1
  have hsz : w.heap.size + 1 + 1 < w1.heap.size := hQ1.lt
  have HE := Lib.hid e1
  clear e1
  gi_wp2_with (refine ⟨trivial, ?_⟩; refine (callsIn_wide.2 (back_any A n c _)).mono ?_; rintro e w' ⟨rfl, rfl⟩)
  have hN := (Own.new w1 73 [.int .u64 0]).alloc (.cells #[.slice A n c] 23)
  have hS := own2 w1 (.cells #[.int .u64 0] 73) 23 [.slice A n c]
  have hK := keep2 w1 (.cells #[.int .u64 0] 73) (.cells #[.slice A n c] 23)
  have hX2 := hX1.below hK
  have hP2 := hP1.below hK
  have hQ2 := hQ1.below hK
  have hk3 := hk2.trans' hK
  have hlt : ∀ b o, A = some ⟨b, o, none⟩ → 0 < n → b < w1.heap.size := fun b o e hp => hr1.lt e hp
  apply wpIn_range_idx (N := n) rfl (by omega) (gf := 78) (lb := #[.pointer (some ⟨w1.heap.size + 1, 0, none⟩)]) rfl trivial (enters_of Tryd.func78 (by kernel_rfl) rfl)
    (back_seq Fence.wide _ trivial rfl (by omega) (w1.heap.size + 1) w1.heap.size n c A (dig m) (by omega) _ hS (hr1.below hK) hlt) BackKp.t (BackKp.b (by simp; omega) (by simp)) (Below.refl _ _) (fun _ => rfl)
    (fun k W => val ((dig m).drop (n - k)) ≤ top63 ∧ Own W w1.heap.size 73 [.int .u64 (val ((dig m).drop (n - k)) : Nat)] ∧ Own W (w1.heap.size + 1) 23 [.slice A n c] ∧ Own W w.heap.size 25 [.bool neg, v] ∧ Own W (w.heap.size + 1) 3 [.int .i64 0] ∧ Own W (w.heap.size + 1 + 1) 4 [.bool false] ∧ Keeps w W)
    (fun c k W => c = .ret ∧ top63 < m ∧ Own W (w.heap.size + 1) 3 [.int .i64 0] ∧ Own W (w.heap.size + 1 + 1) 4 [.bool false] ∧ Keeps w W)
    (fun k A B row hs hg hr => ⟨hs.1, hs.2.1.nc hg (fun r e => (hr r e).2), hs.2.2.1.nc hg (fun r e => (hr r e).2), hs.2.2.2.1.nc hg (fun r e => (hr r e).2), hs.2.2.2.2.1.nc hg (fun r e => (hr r e).2), hs.2.2.2.2.2.1.nc hg (fun r e => (hr r e).2), ownFrom_below (β := Nat) (Nat.le_refl _) (by simp; omega) k A B row hs.2.2.2.2.2.2 hg hr⟩)
    (fun c k A B row hs hg hr => ⟨hs.1, hs.2.1, hs.2.2.1.nc hg (fun r e => (hr r e).2), hs.2.2.2.1.nc hg (fun r e => (hr r e).2), ownFrom_below (β := Nat) (Nat.le_refl _) (by simp; omega) k A B row hs.2.2.2.2 hg hr⟩)
    ⟨by rw [List.drop_of_length_le (by rw [HE.out]; omega)]; simp [val], by rw [List.drop_of_length_le (by rw [HE.out]; omega)]; simpa [val] using hN, hS, hX2, hP2, hQ2, hk3⟩
  case hassign =>
    intro l x W K hK
    unfold backEnc
    gi_wp2
    exact hK
  case hbody =>
    rintro l k W ⟨h0, h1, h2, h4, h5, h6, h7⟩ hk
    have hdv : val ((dig m).drop (n - (k + 1))) = ix (dig m) (n - 1 - k) + 1000000000 * val ((dig m).drop (n - k)) := by
      rw [val_drop (dig m) (n - (k + 1)) (by rw [HE.out]; omega), show n - (k + 1) = n - 1 - k by omega, show n - 1 - k + 1 = n - k by omega]
    have hxb : ((ix (dig m) (n - 1 - k) : Nat) : Int) < 1000000000 := by have := (AllB.dig m).ix (n - 1 - k); omega
    have hle : val ((dig m).drop (n - (k + 1))) ≤ m := by
      have := val_split (dig m) (n - (k + 1)) (by rw [HE.out]; omega)
      rw [val_dig] at this
      have h2 := Nat.le_mul_of_pos_left (val ((dig m).drop (n - (k + 1)))) (show 0 < 1000000000 ^ (n - (k + 1)) by exact Nat.pow_pos (by omega))
      omega
    have HD := Lib.hid hdv
    have HL := Lib.hid hle
    have H0 := Lib.hid h0
    clear hdv hle h0
    have c0 := h1.c0
    have f0 := h1.frozen 0
    have p0 := h5.c0
    have p1 := h5.frozen 0
    have q0 := h6.c0
    have q1 := h6.frozen 0
    by_cases hs : val ((dig m).drop (n - k)) * 1000000000 + ix (dig m) (n - 1 - k) ≤ top63
    · have hd1 := small_ok _ _ (by omega) hs
      have hd2 := small_bd _ _ hs
      have HS := Lib.hid hs
      clear hs
      gi_wp2
      refine ⟨(KeepsOthers.setCell _ _ _).from _, ⟨(Below.refl _ W).setCell (p := ⟨w1.heap.size, 0, none⟩) (Nat.le_refl _) _, Below.heap_setCell _ _ _ _ (by simp)⟩, ?_, ?_, h2.far (by simp) _, h4.far (by simp; omega) _, h5.far (by simp; omega) _, h6.far (by simp; omega) _, h7.set (by simp; omega) _⟩
      · have := HD.out; have := HS.out; omega
      · have := h1.set 0 (.int .u64 (val ((dig m).drop (n - (k + 1))) : Nat))
        rw [show ((val (List.drop (n - k) (dig m)) : Nat) : Int) * 1000000000 + ((ix (dig m) (n - 1 - k) : Nat) : Int) = ((val ((dig m).drop (n - (k + 1))) : Nat) : Int) by have := HD.out; omega]
        exact this
    · have hd1 := small_over _ _ (by omega) hs
      have HS := Lib.hid hs
      clear hs
      gi_wp2
      exact ⟨((KeepsOthers.setCell _ _ _).from _).trans ((KeepsOthers.setCell _ _ _).from _), rfl, by have := HD.out; have := HS.out; have := HL.out; omega, (h5.set 0 (.int .i64 0)).far (by simp) _, (h6.far (by simp) _).set 0 (.bool false), (h7.set (by simp) _).set (by simp; omega) _⟩
  case hdone =>
    rintro D W hD ⟨h0, h1, h2, h4, h5, h6, h7⟩ hDf
    rw [Nat.sub_self, List.drop_zero, val_dig] at h0 h1
    have c0 := h1.c0
    have x0 := h4.c0
    have p0 := h5.c0
    have p1 := h5.frozen 0
    have q0 := h6.c0
    have q1 := h6.frozen 0
    have H0 := Lib.hid h0
    clear h0
    simp only [World.size_alloc] at hD
    rcases Nat.eq_zero_or_pos n with hn0 | hn0
    · subst hn0
      obtain rfl : m = 0 := dig_length_zero.1 HE.out
      gi_wp2
      have h5a := (h5.set 0 (.int .i64 (0))).far (p := ⟨w.heap.size + 1 + 1, 0, none⟩) (by simp) (.bool true)
      have h6a := (h6.far (p := ⟨w.heap.size + 1, 0, none⟩) (by simp) (.int .i64 (0))).set 0 (.bool true)
      have hDa : ((W.setCell ⟨w.heap.size + 1, 0, none⟩ (.int .i64 (0))).setCell ⟨w.heap.size + 1 + 1, 0, none⟩ (.bool true)).heap[D]? = some (.deferred (some [])) := (Below.heap_setCell _ _ _ _ (by simp; omega)).trans ((Below.heap_setCell _ _ _ _ (by simp; omega)).trans hDf)
      refine ⟨by simp, .inl ⟨_, _, rfl, run_takeDeferred hDa, ?_⟩⟩
      have h5n := h5a.nc (grownBy_putObj' _ D (.deferred none)) (fun r e => by cases e; exact ⟨_, hDa, rfl⟩)
      have h6n := h6a.nc (grownBy_putObj' _ D (.deferred none)) (fun r e => by cases e; exact ⟨_, hDa, rfl⟩)
      refine ⟨.tuple #[.int .i64 (0), .bool true], by simp [results, Tryd.results43, go_sem, h5n.c0, h6n.c0], ?_, ((h7.set (by simp) _).set (by simp; omega) _).trans (belowK_b (w := w) (Nat.le_refl _) _ D _ _ (by omega) hDa rfl rfl)⟩
      rw [HC.out, sgn_zero, smallV_in (by omega)]
    · have hn1 : (0 : Int) < n := by omega
      cases neg with
      | true =>
        have HW := Lib.hid (small_neg m H0.out)
        gi_wp2
        rw [HW.out]
        have h5a := (h5.set 0 (.int .i64 (-(m : Int)))).far (p := ⟨w.heap.size + 1 + 1, 0, none⟩) (by simp) (.bool true)
        have h6a := (h6.far (p := ⟨w.heap.size + 1, 0, none⟩) (by simp) (.int .i64 (-(m : Int)))).set 0 (.bool true)
        have hDa : ((W.setCell ⟨w.heap.size + 1, 0, none⟩ (.int .i64 (-(m : Int)))).setCell ⟨w.heap.size + 1 + 1, 0, none⟩ (.bool true)).heap[D]? = some (.deferred (some [])) := (Below.heap_setCell _ _ _ _ (by simp; omega)).trans ((Below.heap_setCell _ _ _ _ (by simp; omega)).trans hDf)
        refine ⟨by simp, .inl ⟨_, _, rfl, run_takeDeferred hDa, ?_⟩⟩
        have h5n := h5a.nc (grownBy_putObj' _ D (.deferred none)) (fun r e => by cases e; exact ⟨_, hDa, rfl⟩)
        have h6n := h6a.nc (grownBy_putObj' _ D (.deferred none)) (fun r e => by cases e; exact ⟨_, hDa, rfl⟩)
        refine ⟨.tuple #[.int .i64 (-(m : Int)), .bool true], by simp [results, Tryd.results43, go_sem, h5n.c0, h6n.c0], ?_, ((h7.set (by simp) _).set (by simp; omega) _).trans (belowK_b (w := w) (Nat.le_refl _) _ D _ _ (by omega) hDa rfl rfl)⟩
        rw [HC.out, show sgn true m = -(m : Int) from rfl, smallV_in (by have := H0.out; unfold top63 at this; omega)]
      | false =>
        by_cases ht : m = top63
        · have ht2 : (((m : Nat) : Int) == 9223372036854775808) = true := by subst ht; rfl
          have HT := Lib.hid ht
          clear ht
          gi_wp2
          have h5a := (h5.set 0 (.int .i64 (0))).far (p := ⟨w.heap.size + 1 + 1, 0, none⟩) (by simp) (.bool false)
          have h6a := (h6.far (p := ⟨w.heap.size + 1, 0, none⟩) (by simp) (.int .i64 (0))).set 0 (.bool false)
          have hDa : ((W.setCell ⟨w.heap.size + 1, 0, none⟩ (.int .i64 (0))).setCell ⟨w.heap.size + 1 + 1, 0, none⟩ (.bool false)).heap[D]? = some (.deferred (some [])) := (Below.heap_setCell _ _ _ _ (by simp; omega)).trans ((Below.heap_setCell _ _ _ _ (by simp; omega)).trans hDf)
          refine ⟨by simp, .inl ⟨_, _, rfl, run_takeDeferred hDa, ?_⟩⟩
          have h5n := h5a.nc (grownBy_putObj' _ D (.deferred none)) (fun r e => by cases e; exact ⟨_, hDa, rfl⟩)
          have h6n := h6a.nc (grownBy_putObj' _ D (.deferred none)) (fun r e => by cases e; exact ⟨_, hDa, rfl⟩)
          refine ⟨.tuple #[.int .i64 (0), .bool false], by simp [results, Tryd.results43, go_sem, h5n.c0, h6n.c0], ?_, ((h7.set (by simp) _).set (by simp; omega) _).trans (belowK_b (w := w) (Nat.le_refl _) _ D _ _ (by omega) hDa rfl rfl)⟩
          rw [HC.out, show sgn false m = (m : Int) from rfl, smallV_out (by have := HT.out; unfold top63 at this; omega)]
        · have ht2 : (((m : Nat) : Int) == 9223372036854775808) = false := by unfold top63 at ht; simp; omega
          have HW := Lib.hid (show wrap64 (m : Int) = (m : Int) by have := H0.out; unfold top63 at this ht; exact IntWalk.wrap64_in _ (by omega))
          have HT := Lib.hid ht
          clear ht
          gi_wp2
          rw [HW.out]
          have h5a := (h5.set 0 (.int .i64 ((m : Int)))).far (p := ⟨w.heap.size + 1 + 1, 0, none⟩) (by simp) (.bool true)
          have h6a := (h6.far (p := ⟨w.heap.size + 1, 0, none⟩) (by simp) (.int .i64 ((m : Int)))).set 0 (.bool true)
          have hDa : ((W.setCell ⟨w.heap.size + 1, 0, none⟩ (.int .i64 ((m : Int)))).setCell ⟨w.heap.size + 1 + 1, 0, none⟩ (.bool true)).heap[D]? = some (.deferred (some [])) := (Below.heap_setCell _ _ _ _ (by simp; omega)).trans ((Below.heap_setCell _ _ _ _ (by simp; omega)).trans hDf)
          refine ⟨by simp, .inl ⟨_, _, rfl, run_takeDeferred hDa, ?_⟩⟩
          have h5n := h5a.nc (grownBy_putObj' _ D (.deferred none)) (fun r e => by cases e; exact ⟨_, hDa, rfl⟩)
          have h6n := h6a.nc (grownBy_putObj' _ D (.deferred none)) (fun r e => by cases e; exact ⟨_, hDa, rfl⟩)
          refine ⟨.tuple #[.int .i64 ((m : Int)), .bool true], by simp [results, Tryd.results43, go_sem, h5n.c0, h6n.c0], ?_, ((h7.set (by simp) _).set (by simp; omega) _).trans (belowK_b (w := w) (Nat.le_refl _) _ D _ _ (by omega) hDa rfl rfl)⟩
          rw [HC.out, show sgn false m = (m : Int) from rfl, smallV_in (by have := H0.out; have := HT.out; unfold top63 at *; omega)]
  case hstop =>
    rintro D c k W hD _ ⟨rfl, ht, h5, h6, h7⟩ hDf
    simp only [World.size_alloc] at hD
    have HT := Lib.hid ht
    clear ht
    gi_wp2
    refine ⟨by simp, .inl ⟨_, _, rfl, run_takeDeferred hDf, ?_⟩⟩
    have h5n := h5.nc (grownBy_putObj' _ D (.deferred none)) (fun r e => by cases e; exact ⟨_, hDf, rfl⟩)
    have h6n := h6.nc (grownBy_putObj' _ D (.deferred none)) (fun r e => by cases e; exact ⟨_, hDf, rfl⟩)
    refine ⟨.tuple #[.int .i64 0, .bool false], by simp [results, Tryd.results43, go_sem, h5n.c0, h6n.c0], ?_, h7.trans (belowK_b (w := w) (Nat.le_refl _) _ D _ _ (by omega) hDf rfl rfl)⟩
    rw [HC.out, smallV_out (by have := HT.out; unfold top63 at this; unfold sgn; split <;> omega)]

theorem small_any (neg : Bool) (xs : List Nat) (V : Value) (w : World) (h : IntArg w V neg xs) (hm : xs.length ≤ 1000000) :
    Calls Tryd.prog 43 #[V] w fun e w' => e = .returned (smallV (cnt neg xs)) ∧ Keeps w w' := by
  rcases Nat.lt_or_ge 3 (dig (mag neg xs)).length with h3 | h3
  · rw [smallV_out]
    · exact small_long neg xs V w h hm h3
    · have := dig_ge (n := mag neg xs) (by intro e; rw [e, dig_zero] at h3; simp at h3)
      have h4 : 1000000000 ^ 3 ≤ 1000000000 ^ ((dig (mag neg xs)).length - 1) := Nat.pow_le_pow_right (by omega) (by omega)
      unfold cnt sgn
      split <;> omega
  · exact small_short neg xs V w h hm h3
end Go.Proofs.YtomjnjpehokjbaaDoor

namespace Go.Proofs.YtomjnjpehokjbaaDoor
open Go.RowKit Go.Shelf
theorem entToI1 : ∀ args w, (callFunc 42 args).run Tryd.prog w = .ok (.enter 42 args) w := fun args w => by
  have h1 : ¬ (Tryd.f42.name = "runtime.NumGoroutine") := by decide +kernel
  have h2 : ¬ (Tryd.f42.body = none) := fun h => by
    have h3 : Tryd.f42.body.isSome = true := by kernel_rfl
    rw [h] at h3
    cases h3
  simp [callFunc, go_sem, Tryd.func42, h1, h2]
/-- not an integer -/
def notInt (x : Tr) : Bool := x.kind != 0
def trZ (x : Tr) : Int := cnt x.neg x.gs
def in64 (z : Int) : Bool := decide (-9223372036854775808 ≤ z ∧ z ≤ 9223372036854775807)
/-- the code of ToInts, and the ints -/
def toIC (t : Tr) : Int := if vldD 8 t && (t.kind == 2) && !t.ls.any notInt then (if (t.ls.map trZ).all in64 then 0 else 2) else 1
def toIL (t : Tr) : List Int := if toIC t = 0 then t.ls.map trZ else []
set_option maxRecDepth 100000 in
theorem says_toI {w : World} {N : Nat} {l : List Tr} : SaysV Tryd.prog 42 #[] notInt N l w := fun u hk x _ cs hv => by
  show Calls Tryd.prog 42 #[.agg cs.toArray] u _
  obtain ⟨k, n, g, y, m⟩ := x
  obtain ⟨A, n1, c1, B, n2, c2, L, c, rfl, -⟩ := hv.open_
  obtain ⟨W1, hW1⟩ : ∃ W1, u.alloc (.cells #[.int .i64 k, .bool n, .slice A n1 c1, .slice B n2 c2, .slice L m.length c] 29) = W1 := ⟨_, rfl⟩
  have g1 : Own W1 u.heap.size 29 [.int .i64 k, .bool n, .slice A n1 c1, .slice B n2 c2, .slice L m.length c] := hW1 ▸ Own.new u _ _
  have hk1 : Keeps u W1 := hW1 ▸ box2 u _
  have x0 := g1.cell 0
  have x1 := g1.cell 1
  have x2 := g1.cell 2
  have x3 := g1.cell 3
  have x4 := g1.cell 4
  simp only [List.getElem?_cons_zero, List.getElem?_cons_succ] at x0 x1 x2 x3 x4
  clear hv g1
  go_enter Tryd.func42, Tryd.ntmps42
  go_wp2
  go_ret
  exact ⟨rfl, hk1⟩
theorem make_int (k : Int) (n : Nat) (e : k = (n : Int)) (h : n ≤ 1000000) : ∀ u : World, (Instr.makeSlice 50 (.int .i64 0) (.int .i64 k)).run Tryd.prog u =
    .ok (.slice (some ⟨u.heap.size, 0, none⟩) 0 n) (u.alloc (.cells (madeCells #[.int .i64 0] n) 3)) := fun u => by
  subst e
  obtain ⟨i0, hi, hz0, hz1, hz2⟩ := info_parts info_int
  have h := run_make (P := Tryd.prog) u 50 3 i0 (.int .i64 0) Tryd.underlying50 hi hz0 .i64 .i64 0 (n : Int) (by omega) (by omega) (by rw [hz2]; omega) (by omega)
  simpa [hz1, Value.cells] using h
/-- what ToInts hands back -/
def ToIPost (t : Tr) (w : World) (e : Ending) (w' : World) : Prop :=
  ∃ A c, e = .returned (.tuple #[.slice A (toIL t).length c, .int .i64 (toIC t)]) ∧ IRow w' A (toIL t) ∧ Keeps w w'
theorem toI_err {t : Tr} {w w' : World} {c : Int} (h : toIC t = c) (hc : c ≠ 0) (hk : Keeps w w') : ToIPost t w (.returned (.tuple #[.slice none 0 0, .int .i64 c])) w' := by
  have h2 : toIL t = [] := if_neg (by rw [h]; exact hc)
  exact ⟨none, 0, by rw [h2, h]; rfl, by rw [h2]; exact Row.zero, hk⟩
theorem toIC_1 {t : Tr} (h : (vldD 8 t && (t.kind == 2) && !t.ls.any notInt) = false) : toIC t = 1 := by unfold toIC; rw [h]; rfl
theorem toIC_ok {t : Tr} (h : (vldD 8 t && (t.kind == 2) && !t.ls.any notInt) = true) (h2 : (t.ls.map trZ).all in64 = true) : toIC t = 0 := by unfold toIC; rw [h, h2]; rfl
theorem toIC_2 {t : Tr} (h : (vldD 8 t && (t.kind == 2) && !t.ls.any notInt) = true) (h2 : (t.ls.map trZ).all in64 = false) : toIC t = 2 := by unfold toIC; rw [h, h2]; rfl
theorem all_take_z {l : List Tr} {k : Nat} {x : Tr} (h : l[k]? = some x) : ((l.take (k + 1)).map trZ).all in64 = (((l.take k).map trZ).all in64 && in64 (trZ x)) := by
  obtain ⟨h1, rfl⟩ := List.getElem?_eq_some_iff.1 h
  rw [List.take_succ_eq_append_getElem h1, List.map_append, List.all_append]
  simp
theorem not_all_z {l : List Tr} {k : Nat} (h : ((l.take k).map trZ).all in64 = false) : (l.map trZ).all in64 = false := by
  cases hq : (l.map trZ).all in64 with
  | false => rfl
  | true =>
    rw [List.all_eq_true.2 (fun c hc => List.all_eq_true.1 hq c (by
      obtain ⟨y, hy, rfl⟩ := List.mem_map.1 hc
      exact List.mem_map.2 ⟨y, List.mem_of_mem_take hy, rfl⟩))] at h
    cases h
set_option maxRecDepth 100000 in
set_option maxHeartbeats 4000000 in
theorem toInts_any {t : Tr} {cs : List Value} {w : World} (hv : ValC anyB 800000 w t cs) : Calls Tryd.prog 23 #[.agg cs.toArray] w (ToIPost t w) := by
  obtain ⟨k, n, g, x, l⟩ := t
  obtain ⟨A, n1, c1, B, n2, c2, L, c, rfl, ⟨hbg, hbx, hbl⟩, ⟨rfl, -⟩, ⟨rfl, -⟩, -, hE⟩ := hv.open_
  obtain ⟨W1, hW1⟩ : ∃ W1, w.alloc (.cells #[.int .i64 k, .bool n, .slice A g.length c1, .slice B x.length c2, .slice L l.length c] 29) = W1 := ⟨_, rfl⟩
  have hk1 : Keeps w W1 := hW1 ▸ box2 w _
  have q1 : Own W1 w.heap.size 29 [.int .i64 k, .bool n, .slice A g.length c1, .slice B x.length c2, .slice L l.length c] := hW1 ▸ Own.new w _ _
  have HV := Lib.hid (vvalid_any 8 (by omega) _ _ W1 (hv.keep hk1))
  have HE := Lib.hid hE
  have hlI : (l.length : Int) ≤ 800000 := by omega
  have h1 : ∀ b, (vldD 8 (.mk k n g x l) && (k == 2) && !l.any notInt) = b → Hid ((vldD 8 (.mk k n g x l) && ((Tr.mk k n g x l).kind == 2) && !(Tr.mk k n g x l).ls.any notInt) = b) := fun b h => Lib.hid h
  clear hv hE
  have x0 := q1.cell 0
  have x1 := q1.cell 1
  have x2 := q1.cell 2
  have x3 := q1.cell 3
  have x4 := q1.cell 4
  simp only [List.getElem?_cons_zero, List.getElem?_cons_succ] at x0 x1 x2 x3 x4
  cases hq : vldD 8 (.mk k n g x l) with
  | false =>
    have HN := Lib.hid (toIC_1 (h1 false (by rw [hq]; rfl)).out)
    rw [hq] at HV
    clear hq h1
    go_enter Tryd.func23, Tryd.ntmps23
    go_wp2_with fail
    refine HV.out.mono ?_
    rintro e w2 ⟨rfl, hk2⟩
    go_wp2
    go_ret2
    exact toI_err HN.out (by omega) (hk1.trans' hk2)
  | true =>
    rw [hq] at HV
    have HQ := Lib.hid hq
    clear hq
    cases hk : (k == 2) with
    | false =>
      have HN := Lib.hid (toIC_1 (h1 false (by rw [hk, Bool.and_false]; rfl)).out)
      have hk' : (k != 2) = true := by rw [bne, hk]; rfl
      clear hk h1
      go_enter Tryd.func23, Tryd.ntmps23
      go_wp2_with fail
      refine HV.out.mono ?_
      rintro e w2 ⟨rfl, hk2⟩
      have q2 := q1.below hk2
      clear x0 x1 x2 x3 x4
      have x0 := q2.cell 0
      have x1 := q2.cell 1
      have x2 := q2.cell 2
      have x3 := q2.cell 3
      have x4 := q2.cell 4
      simp only [List.getElem?_cons_zero, List.getElem?_cons_succ] at x0 x1 x2 x3 x4
      go_wp2
      go_ret2
      exact toI_err HN.out (by omega) (hk1.trans' hk2)
    | true =>
      have hk' : (k != 2) = false := by rw [bne, hk]; rfl
      go_enter Tryd.func23, Tryd.ntmps23
      go_wp2_with fail
      refine HV.out.mono ?_
      rintro e w2 ⟨rfl, hk2⟩
      have q2 := q1.below hk2
      have hkw2 := hk1.trans' hk2
      clear x0 x1 x2 x3 x4
      have x0 := q2.cell 0
      have x1 := q2.cell 1
      have x2 := q2.cell 2
      have x3 := q2.cell 3
      have x4 := q2.cell 4
      simp only [List.getElem?_cons_zero, List.getElem?_cons_succ] at x0 x1 x2 x3 x4
      have HC := Lib.hid (containsV_any (c := c) (HE.out.below hkw2) (by simp only [maxLen]; omega) 42 #[] entToI1 notInt says_toI)
      cases ha : l.any notInt with
      | true =>
        have HN := Lib.hid (toIC_1 (h1 false (by rw [ha]; simp)).out)
        rw [ha] at HC
        clear ha h1 hk
        go_wp2_with fail
        refine HC.out.mono ?_
        rintro e w3 ⟨rfl, hk3⟩
        go_wp2
        go_ret2
        exact toI_err HN.out (by omega) (hkw2.trans' hk3)
      | false =>
        have HOK := Lib.hid (h1 true (by rw [HQ.out, hk, ha]; rfl)).out
        rw [ha] at HC
        clear ha h1 hk
        go_wp2_with fail
        refine HC.out.mono ?_
        rintro e w3 ⟨rfl, hk3⟩
        have q3 := q2.below hk3
        have hkw3 := hkw2.trans' hk3
        clear x0 x1 x2 x3 x4
        have x0 := q3.cell 0
        have x1 := q3.cell 1
        have x2 := q3.cell 2
        have x3 := q3.cell 3
        have x4 := q3.cell 4
        simp only [List.getElem?_cons_zero, List.getElem?_cons_succ] at x0 x1 x2 x3 x4
        have hmk := make_int (l.length : Int) l.length rfl (by omega)
        obtain ⟨W4, hW4⟩ : ∃ W4, w3.alloc (.cells (madeCells #[.int .i64 0] l.length) 3) = W4 := ⟨_, rfl⟩
        have hk4 : Keeps w3 W4 := hW4 ▸ box2 w3 _
        have hown4 : W4.ownsRow w3.heap.size 3 1 (.slice (some ⟨w3.heap.size, 0, none⟩) 0 l.length) 0 (i64s []) := hW4 ▸ World.ownsRow_made w3 (madeCells #[.int .i64 0] l.length) l.length (Nat.le_refl _) (by simp only [maxLen]; omega) (by rw [size_madeCells, Nat.mul_one])
        have q4 := q3.below hk4
        have hkw4 := hkw3.trans' hk4
        have HOWN := Lib.hid hown4
        have y4 := x4
        clear x0 x1 x2 x3 x4
        have x0 := q4.cell 0
        have x1 := q4.cell 1
        have x2 := q4.cell 2
        have x3 := q4.cell 3
        have x4 := q4.cell 4
        simp only [List.getElem?_cons_zero, List.getElem?_cons_succ] at x0 x1 x2 x3 x4
        clear hown4
        obtain ⟨i0, hi, hz0, hz1, hz2⟩ := info_parts info_int
        go_wp2
        go_loopw [29, 4] (fun i V wr => ∃ k : Nat, k ≤ l.length ∧ i = .int .i64 (k : Nat) ∧ wr.ownsRow w3.heap.size 3 1 V k (i64s ((l.take k).map trZ)) ∧ Keeps w wr ∧ Keeps w3 wr ∧ Hid (((l.take k).map trZ).all in64 = true)) (fun i _ _ => l.length - (intOf i).toNat)
        case atStart => exact ⟨0, Nat.zero_le _, rfl, HOWN.out, hkw4, hk4, Lib.hid (by simp)⟩
        case round =>
          clear HOWN
          obtain ⟨j, hj, rfl, hown, hkw, hkr, HA⟩ := hrel
          by_cases hlt : j < l.length
          · have hjI : (j : Int) < l.length := by omega
            obtain ⟨y, hy⟩ : ∃ y, l[j]? = some y := ⟨_, List.getElem?_eq_getElem hlt⟩
            obtain ⟨bb, oo, k0, n0, A0, m0, d0, B0, l0, e0, D0, j0, f0, rfl, -, hbs, ⟨g0, g1, g2, g3, g4⟩, hvy⟩ := (HE.out.below hkw).get5 hy
            obtain ⟨W5, hW5⟩ : ∃ W5, wr.alloc (.cells #[.int .i64 k0, .bool n0, .slice A0 m0 d0, .slice B0 l0 e0, .slice D0 j0 f0] 29) = W5 := ⟨_, rfl⟩
            have hk5 : Keeps wr W5 := hW5 ▸ box2 wr _
            have q5 : Own W5 wr.heap.size 29 [.int .i64 k0, .bool n0, .slice A0 m0 d0, .slice B0 l0 e0, .slice D0 j0 f0] := hW5 ▸ Own.new wr _ _
            obtain ⟨ky, ny, gy, xy, ly⟩ := y
            obtain ⟨A9, n9, c9, B9, m9, d9, L9, e9, ee, ⟨hb9, -, -⟩, ⟨rfl, hG⟩, -, -, -⟩ := hvy.open_
            simp only [List.cons.injEq, and_true, Value.int.injEq, Value.bool.injEq, Value.slice.injEq, true_and] at ee
            obtain ⟨rfl, rfl, ⟨rfl, rfl, rfl⟩, ⟨rfl, rfl, rfl⟩, rfl, rfl, rfl⟩ := ee
            have HS := Lib.hid (small_any n0 gy (.agg #[.bool n0, .slice A0 gy.length d0]) W5 ⟨_, rfl, hG.below hk5⟩ (by omega))
            have HT := Lib.hid (all_take_z hy)
            have htk : (l.take (j + 1)).map trZ = (l.take j).map trZ ++ [cnt n0 gy] := by
              obtain ⟨h1, h2⟩ := List.getElem?_eq_some_iff.1 hy
              rw [List.take_succ_eq_append_getElem h1, List.map_append, h2]
              rfl
            have HTK := Lib.hid htk
            have hjr : (trZ (.mk k0 n0 gy xy ly)) = cnt n0 gy := rfl
            rw [hjr] at HT
            have hown5 := hown.keeps hk5
            have HOW := Lib.hid hown5
            obtain ⟨A7, c7, rfl, -⟩ := hown.sl
            have v0 := q5.cell 0
            have v1 := q5.cell 1
            have v2 := q5.cell 2
            have v3 := q5.cell 3
            have v4 := q5.cell 4
            simp only [List.getElem?_cons_zero, List.getElem?_cons_succ] at v0 v1 v2 v3 v4
            clear hy hvy hG hown5 htk hjr q5 hown
            obtain ⟨z, hz⟩ : ∃ z, cnt n0 gy = z := ⟨_, rfl⟩
            rw [hz] at HS HT HTK
            clear hz
            by_cases hin : -9223372036854775808 ≤ z ∧ z ≤ 9223372036854775807
            · have hin64 : in64 z = true := decide_eq_true hin
              have HTA : Hid (((l.take (j + 1)).map trZ).all in64 = true) := Lib.hid (by rw [HT.out, HA.out, hin64]; rfl)
              rw [smallV_in hin] at HS
              clear hin64 hin
              go_wp2_with fail
              refine HS.out.mono ?_
              rintro e w6 ⟨rfl, hk6⟩
              have hown6 := HOW.out.keeps hk6
              have hkw6 := (hkw.trans' hk5).trans' hk6
              have hkr6 := (hkr.trans' hk5).trans' hk6
              have HO6 := Lib.hid hown6
              have hk7 := hkw6.trans' (box2 w6 (.cells #[.int .i64 z] 3))
              have hkr7 := hkr6.trans' (box2 w6 (.cells #[.int .i64 z] 3))
              clear hown6
              go_wp2_with (at_builtin; refine wpList_append_own _ rfl _ _ 50 rfl w3.heap.size 3 i0 (.int .i64 0) 1 8 Tryd.underlying50 hi hz0 hz1 hz2 rfl (by decide) _ j _ rfl (HO6.out.keeps (box2 w6 (.cells #[.int .i64 z] 3))) ⟨w6.heap.size, 0, none⟩ 1 1 [.int .i64 z] rfl rfl (own_cellsV (Own.new w6 _ _)) (by simp [Value.oneCell']) (by simp only [maxLen]; omega) (by omega) (by have := hkr7.size; omega) ?_; intro V' w8 hown8 hgrow hnil; obtain ⟨A8, c8, rfl, -⟩ := hown8.sl)
              have hk8 : Keeps w w8 := hk7.grown hgrow hk7.size (fun b e => by have := (HO6.out.lt b e).1; have := hkw3.size; omega)
              have hkr8 : Keeps w3 w8 := hkr7.grown hgrow hkr7.size (fun b e => (HO6.out.lt b e).1)
              rw [← i64s_snoc, ← HTK.out] at hown8
              have HO8 := Lib.hid hown8
              clear hown8
              go_wp2
              go_roundw
              case rel => exact ⟨j + 1, by omega, by go_num, HO8.out, hk8, hkr8, HTA⟩
              case measure => simp [intOf]; omega
            · have hin64 : in64 z = false := decide_eq_false hin
              have HN := Lib.hid (toIC_2 HOK.out (not_all_z (l := l) (k := j + 1) (by rw [HT.out, hin64]; simp)))
              rw [smallV_out hin] at HS
              clear hin64 hin
              go_wp2_with fail
              refine HS.out.mono ?_
              rintro e w6 ⟨rfl, hk6⟩
              go_wp2
              go_ret2
              exact toI_err HN.out (by omega) ((hkw.trans' hk5).trans' hk6)
          · obtain rfl : j = l.length := by omega
            have hta := HA.out
            rw [List.take_length] at hown hta
            have HN := Lib.hid (toIC_ok HOK.out hta)
            obtain ⟨A7, c7, rfl, -⟩ := hown.sl
            have HOW := Lib.hid hown
            clear hown hta
            go_wp2
            go_ret2
            have hL : toIL (.mk k n g x l) = l.map trZ := if_pos HN.out
            exact ⟨A7, c7, by rw [hL, HN.out, List.length_map]; first | done | rfl, by rw [hL]; exact IRow.of_own HOW.out (by rw [List.length_map]), hkw⟩
end Go.Proofs.YtomjnjpehokjbaaDoor

namespace Go.Proofs.YtomjnjpehokjbaaDoor
open Go.RowKit

def exT : Tr := lstT [intT 5, txtT [97, 58], lstT []]
def wantL : List UInt8 := [108, 51, 58, 105, 53, 59, 116, 50, 58, 97, 58, 108, 48, 58]
theorem dec1 {n : Nat} (h : n < 10) : Lib.decDigits n = [UInt8.ofNat (48 + n)] := by rw [Lib.decDigits, dif_pos h]
theorem text5 : textL 5 = [53] := by
  unfold textL
  rw [if_neg (by decide), if_neg (by decide), show (5 : Int).natAbs = 5 from rfl, dec1 (by decide)]
  rfl
theorem exT_enc : enD 8 exT = wantL := by
  have e1 : ∀ d, enD d (intT 5) = [105, 53, 59] := fun d => by rw [enD_int, text5]; rfl
  have e2 : ∀ d, enD d (txtT [97, 58]) = [116, 50, 58, 97, 58] := fun d => by rw [enD_txt, dec1 (by decide)]; rfl
  have e3 : enD 7 (lstT []) = [108, 48, 58] := by rw [enD_lst, dec1 (by decide)]; rfl
  rw [exT, enD_lst, dec1 (by decide)]
  simp only [List.map_cons, List.map_nil, e1, e2, e3]
  rfl
theorem dig5 : dig 5 = [5] := dig_small (by decide) (by decide)
theorem intT_vld (d : Nat) (z : Int) : vldD d (intT z) = true := by
  have := validB_rep z
  cases d <;> simp [vldD, intT, this]
theorem exT_chk : chkC exT = 0 := by
  refine chkC_iff.2 ⟨?_, ?_, by rw [exT_enc]; decide⟩
  · have h1 : vldD 7 (intT 5) = true := intT_vld 7 5
    have h2 : vldD 7 (txtT [97, 58]) = true := by simp [vldD, txtT, noInt]
    have h3 : vldD 7 (lstT []) = true := by simp [vldD, lstT, noInt]
    rw [exT, lstT, vld2s]
    simp only [List.all_cons, List.all_nil, h1, h2, h3]
    rfl
  · have h1 : shD 7 (intT 5) = true := by
      rw [shD_int, shortZ_iff, text5]; decide
    rw [exT, shD_lst]
    simp only [List.all_cons, List.all_nil, h1, shD_txt, Bool.true_and, Bool.and_true]
    rw [shD_lst]
    rfl
theorem exT_dec : decT wantL = some exT := decT_iff.2 ⟨exT_chk, exT_enc⟩
def badL : List UInt8 := [105, 48, 53, 59]
theorem bad_dec : decT badL = none := by
  refine decT_none ?_
  unfold badL
  rw [valP_int, show cutM 59 [48, 53, 59] = some ([48, 53], []) by decide]
  simp only
  rw [if_neg (by decide)]
theorem trZ_intT (z : Int) : trZ (intT z) = z := cnt_rep z
theorem toIC_ints {l : List Int} (hz : ∀ x ∈ l, -9223372036854775808 ≤ x ∧ x ≤ 9223372036854775807) : toIC (lstT (l.map intT)) = 0 := by
  refine toIC_ok ?_ ?_
  · have h1 : vldD 8 (lstT (l.map intT)) = true := by
      simp [vldD, lstT, noInt]
      intro x _
      have := intT_vld 7 x
      simpa [vldD] using this
    have h2 : (lstT (l.map intT)).ls.any notInt = false := by
      simp [lstT, Tr.ls, notInt, intT, Tr.kind]
    rw [h1, h2]
    rfl
  · simp only [lstT, Tr.ls, List.map_map, List.all_eq_true, List.mem_map]
    rintro c ⟨x, hx, rfl⟩
    simp only [Function.comp, trZ_intT]
    exact decide_eq_true (hz x hx)
theorem toIL_ints {l : List Int} (hz : ∀ x ∈ l, -9223372036854775808 ≤ x ∧ x ≤ 9223372036854775807) : toIL (lstT (l.map intT)) = l := by
  rw [toIL, if_pos (toIC_ints hz)]
  simp [lstT, Tr.ls, Function.comp_def, trZ_intT]
end Go.Proofs.YtomjnjpehokjbaaDoor
