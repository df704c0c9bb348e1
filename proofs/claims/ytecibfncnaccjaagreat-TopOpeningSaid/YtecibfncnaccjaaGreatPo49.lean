/- slices.Repeat of one int, terrain.blank: the walks. The opening of a height grid, plainly: the least heights in windows, and of these the greatest. No program in sight. terrain.with, terrain.filtered for both choices: the walks. terrain.opened, checked, Open: the walks. -/
import Derived.Test.YtecibfncnaccjaaGreatPo29
import Derived.Test.YtecibfncnaccjaaGreatPo28
import Derived.Test.YtecibfncnaccjaaGreatPo12
import Derived.Laws.IdiomCopy
import Derived.Laws.MakeOwn
import Derived.Deep.RegionHeld3
import Derived.Test.YtecibfncnaccjaaGreatPo3
import Derived.Deep.QuietTactic
import Derived.BigQuiet
import Derived.Test.YtecibfncnaccjaaGreatPo47
namespace Go.Proofs.YtecibfncnaccjaaGreat
open Go.RowKit Go.Shelf
theorem Own.setCells {g : Nat} {t : TypeId} : ∀ (news : List Value) (off : Nat) (vs : List Value) (w : World), Own w g t vs → off + news.length ≤ vs.length → Own (w.setCells g off news) g t (vs.take off ++ news ++ vs.drop (off + news.length))
 | [], off, vs, w, h, _ => by
  show Own w g t _
  simpa using h
 | v :: r, off, vs, w, h, hl => by
  have hl' : off + r.length + 1 ≤ vs.length := by simpa [Nat.add_assoc] using hl
  have h1 := h.set off v
  have ih := Own.setCells r (off + 1) (vs.set off v) (w.setCell ⟨g, off, none⟩ v) h1 (by simp; omega)
  show Own ((w.setCell ⟨g, off, none⟩ v).setCells g (off + 1) r) g t _
  have e : (vs.set off v).take (off + 1) ++ r ++ (vs.set off v).drop (off + 1 + r.length) = vs.take off ++ (v :: r) ++ vs.drop (off + (v :: r).length) := by
   rw [List.take_succ_eq_append_getElem (by simp; omega), List.take_set_of_le (Nat.le_refl _), List.drop_set_of_lt (by omega)]
   simp [Nat.add_assoc, Nat.add_comm 1 r.length]
  rwa [e] at ih
theorem below_setCells {B : Nat} {w : World} {g : Nat} (hg : B ≤ g) : ∀ (news : List Value) (off : Nat) (w' : World), Below B w w' → Below B w (w'.setCells g off news)
 | [], _, _, h => h
 | v :: r, off, w', h => below_setCells hg r (off + 1) (w'.setCell ⟨g, off, none⟩ v) (h.setCell (p := ⟨g, off, none⟩) hg v)
theorem own_some {w : World} {g : Nat} {t : TypeId} {vs : List Value} (h : Own w g t vs) {j : Nat} (hj : j < vs.length) : (w.cell? ⟨g, j, none⟩).isSome = true := by
 rw [h.cell, List.getElem?_eq_getElem hj]
 rfl
theorem info_intR : (Tryz.prog.info? 3).map (fun i => (i.zero, i.size, i.bytes)) = some (some (.int .i64 0), 1, 8) := by kernel_rfl
theorem make_ints (n : Nat) (h : n ≤ 1000000) : ∀ u : World, (Instr.makeSlice 22 (.int .i64 (n : Nat)) (.int .i64 (n : Nat))).run Tryz.prog u =
 .ok (.slice (some ⟨u.heap.size, 0, none⟩) n n) (u.alloc (.cells (madeCells #[.int .i64 0] n) 3)) := fun u => by
 obtain ⟨i0, hi, hz0, hz1, hz2⟩ := info_parts info_intR
 have h := run_make (P := Tryz.prog) u 22 3 i0 (.int .i64 0) Tryz.underlying22 hi hz0 .i64 .i64 (n : Int) (n : Int) (by omega) (by omega) (by rw [hz2]; omega) (by omega)
 simpa [hz1, Value.cells] using h
theorem run_copy_ints {w : World} {g : Nat} {vs : List Value} (h : Own w g 3 vs) {off dLen dCap sLen sCap : Nat} (a : Addr) (cs : List Value) (hn : cs.length = Nat.min sLen dLen)
 (hsrc : ∀ j v, cs[j]? = some v → w.cell? (a.add j) = some v) (h1 : ∀ v ∈ cs, v.oneCell' = true) (hlen : off + cs.length ≤ vs.length) (ty : TypeId) :
 (Builtin.copy_ #[22, 22] ty #[.slice (some ⟨g, off, none⟩) dLen dCap, .slice (some a) sLen sCap]).run Tryz.prog w = .ok (goInt (Nat.min sLen dLen)) (w.setCells g off cs) := by
 obtain ⟨i0, hi, hz0, hz1, hz2⟩ := info_parts info_intR
 have hl := run_firstCells_some (P := Tryz.prog) (w := w) 1 (Nat.min sLen dLen) a sLen sCap cs (by omega) hsrc
 have hst := run_storeCells_cells (P := Tryz.prog) g off cs 0 w (fun j hj => by rw [Nat.add_zero]; exact own_some h (by omega)) (fun j _ => by rw [Nat.add_zero]; exact h.frozen _) h1
 simp only [Nat.add_zero] at hst
 simp [Builtin.copy_, run_underlying Tryz.underlying22, Builtin.lenOf, sizeOf, typeInfo, hi, hz1, hl, hst]
def repC (n m : Nat) (v : Int) : List Value := List.replicate m (.int .i64 v) ++ List.replicate (n - m) (.int .i64 0)
theorem repC_length {n m : Nat} (v : Int) (h : m ≤ n) : (repC n m v).length = n := by simp [repC]; omega
theorem repC_set {n m c : Nat} (v : Int) (_ : m + c ≤ n) : (repC n m v).take m ++ List.replicate c (.int .i64 v) ++ (repC n m v).drop (m + c) = repC n (m + c) v := by
 unfold repC
 rw [List.take_left' (by simp), List.drop_append, List.drop_of_length_le (by simp), List.nil_append, List.length_replicate, show m + c - m = c by omega, List.drop_replicate, List.replicate_append_replicate]
 congr 2
 omega
theorem repC_full (n : Nat) (v : Int) : repC n n v = (List.replicate n v).map fun x => Value.int .i64 x := by simp [repC]
theorem step_copy_run {P : Program} {ops : Array Oper} {o : Oper} {a : Act} {w : World} {K : Act → World → Prop} {Q : Exit → Act → World → Prop} {E : Prop} (hg : o.guard = none) (d x : Operand) (t : TypeId)
 (hop : o.op = Op.call { callee := Callee.builtin Builtin.copy, args := #[d, x], argTypes := #[t, t] }) (v u : Value) (hd : a.eval d = v) (hx : a.eval x = u) {v' : Value} {w' : World}
 (hr : (Builtin.copy_ #[t, t] o.type #[v, u]).run P w = .ok v' w') (hK : K (a.put o.dst v') w') :
 if Region.wanted o (yielded ops a.tmps) = true then Oper.wp P o a w K Q else E := by
 have hw : Region.wanted o (yielded ops a.tmps) = true := by simp [Region.wanted, hg]
 rw [if_pos hw]
 unfold Oper.wp
 simp [execOp, hop, resolve, invoke, builtin, hd, hx, hr, Result.andThen]
 exact hK
set_option maxRecDepth 100000 in
set_option maxHeartbeats 2000000 in
theorem repeat1_any {w : World} {b c0 n : Nat} {v : Int} (hx : Own w b 3 [.int .i64 v]) (h1 : 1 ≤ n) (hn : n ≤ 5000) :
 Calls Tryz.prog 94 #[.slice (some ⟨b, 0, none⟩) 1 c0, .int .i64 (n : Nat)] w fun e w' => ∃ g, e = .returned (.slice (some ⟨g, 0, none⟩) n n) ∧ w.heap.size ≤ g ∧ Own w' g 3 ((List.replicate n v).map fun x => Value.int .i64 x) ∧ Keeps w w' := by
 have HM := Lib.hid (Tryz.bits_Mul 1 n (by omega) (by omega) w)
 rw [show 1 * n / 18446744073709551616 = 0 by omega, show 1 * n % 18446744073709551616 = n by omega] at HM
 obtain ⟨W1, hW1⟩ : ∃ W1, w.alloc (.cells (madeCells #[.int .i64 0] n) 3) = W1 := ⟨_, rfl⟩
 have hmk := make_ints n (by omega)
 have hO1 : Own W1 w.heap.size 3 (repC n 0 v) := by
  have e : repC n 0 v = i64s (List.replicate n 0) := by simp [repC, i64s]
  have h := heap_alloc_new w (.cells (madeCells #[.int .i64 0] n) 3)
  rw [madeZ] at h
  rw [← hW1, madeZ, e]
  exact h
 have hk1 : Keeps w W1 := hW1 ▸ box2 w _
 have hx1 := hx.below hk1
 have hcp := run_copy_ints (w := W1) hO1 (off := 0) (dLen := n) (dCap := n) (sLen := 1) (sCap := c0) ⟨b, 0, none⟩ [.int .i64 v] (by show 1 = min 1 n; omega) (fun j u hj => by
  rw [show (⟨b, 0, none⟩ : Addr).add j = ⟨b, j, none⟩ by unfold Addr.add; split <;> simp_all, hx1.cell]
  exact hj) (by simp [Value.oneCell']) (by rw [repC_length v (Nat.zero_le _)]; simpa using h1)
 rw [show Nat.min 1 n = 1 by show min 1 n = 1; omega] at hcp
 have hO2 : Own (W1.setCells w.heap.size 0 [.int .i64 v]) w.heap.size 3 (repC n 1 v) := by
  have h := Own.setCells [.int .i64 v] 0 _ W1 hO1 (by rw [repC_length v (Nat.zero_le _)]; simpa using h1)
  have e := repC_set (n := n) (m := 0) (c := 1) v (by omega)
  rw [List.replicate_one] at e
  simp only [List.length_singleton] at h
  rw [e] at h
  exact h
 have hk2 : Keeps w (W1.setCells w.heap.size 0 [.int .i64 v]) := below_setCells (Nat.le_refl _) _ _ _ hk1
 have hwh : w.heap.size = W1.heap.size - 1 := by rw [← hW1, World.size_alloc]; omega
 obtain ⟨W2, hW2⟩ : ∃ W2, W1.setCells w.heap.size 0 [.int .i64 v] = W2 := ⟨_, rfl⟩
 rw [hW2] at hcp hO2 hk2
 obtain ⟨g, hg⟩ : ∃ g, w.heap.size = g := ⟨_, rfl⟩
 have HG := Lib.hid hg
 have hnI : (n : Int) ≤ 5000 := by omega
 have hn1 : (1 : Int) ≤ (n : Int) := by omega
 have HMK := Lib.hid (hmk w)
 have HS := Lib.hid (⟨hO2, hk2⟩ : Own W2 w.heap.size 3 (repC n 1 v) ∧ Keeps w W2)
 rw [hW1] at HMK
 rw [hg] at HMK HS hcp
 have hmkr := HMK.out
 clear hx hO1 hk1 hx1 hO2 hk2 hwh hW2 hg hmk hW1
 go_enter Tryz.func94, Tryz.ntmps94
 go_wp2_with fail
 refine HM.out.mono ?_
 rintro e w1 ⟨rfl, hw⟩
 have hw := hw.symm
 subst hw
 go_wp2
 clear hmkr hcp HMK
 go_loopw [8] (fun i wr => ∃ m : Nat, 1 ≤ m ∧ m ≤ n ∧ i = .int .i64 (m : Nat) ∧ Own wr g 3 (repC n m v) ∧ Keeps w wr) (fun i _ => n - (intOf i).toNat)
 case atStart => exact ⟨1, Nat.le_refl _, h1, rfl, HG.out ▸ HS.out.1, HS.out.2⟩
 case round =>
  clear HS
  obtain ⟨m, hm1, hm, rfl, hO, hk⟩ := hrel
  by_cases hlt : m < n
  ·have hmI : (m : Int) < (n : Int) := by omega
   have t1 : decide ((m : Int) < (n : Int)) = true := decide_eq_true hmI
   have hcp := run_copy_ints (w := wr.drew) hO.drew (off := m) (dLen := n - m) (dCap := n - m) (sLen := m) (sCap := n) ⟨g, 0, none⟩ (List.replicate (min m (n - m)) (.int .i64 v)) (by simp) (fun j u hj => by
    have hj' := List.getElem?_eq_some_iff.1 hj
    obtain ⟨hjl, hju⟩ := hj'
    rw [List.length_replicate] at hjl
    rw [List.getElem_replicate] at hju
    subst hju
    rw [show (⟨g, 0, none⟩ : Addr).add j = ⟨g, j, none⟩ by unfold Addr.add; split <;> simp_all, hO.drew.cell]
    unfold repC
    rw [List.getElem?_append_left (by rw [List.length_replicate]; omega), List.getElem?_replicate, if_pos (by omega)]) (by
     intro u hu
     rw [List.eq_of_mem_replicate hu]
     rfl) (by rw [repC_length v (by omega), List.length_replicate]; omega)
   have hO2 : Own (wr.drew.setCells g m (List.replicate (min m (n - m)) (.int .i64 v))) g 3 (repC n (m + min m (n - m)) v) := by
    have h := Own.setCells (List.replicate (min m (n - m)) (.int .i64 v)) m _ wr.drew hO.drew (by rw [repC_length v (by omega), List.length_replicate]; omega)
    rw [List.length_replicate, repC_set v (by omega)] at h
    exact h
   have hk2 : Keeps w (wr.drew.setCells g m (List.replicate (min m (n - m)) (.int .i64 v))) := below_setCells (Nat.le_of_eq HG.out) _ _ _ (Below.drew hk)
   obtain ⟨W3, hW3⟩ : ∃ W3, wr.drew.setCells g m (List.replicate (min m (n - m)) (.int .i64 v)) = W3 := ⟨_, rfl⟩
   rw [hW3] at hcp hO2 hk2
   have HCP := Lib.hid hcp
   have HO2 := Lib.hid hO2
   obtain ⟨q, hq⟩ : ∃ q, min m (n - m) = q := ⟨_, rfl⟩
   rw [show Nat.min m (n - m) = q from hq] at HCP
   rw [hq] at HO2
   have hq1 : 1 ≤ q := by omega
   have hq2 : m + q ≤ n := by omega
   have hqI : (m : Int) + (q : Int) ≤ (n : Int) := by omega
   have hw1 : IntKind.i64.wrap ((m : Int) + (q : Int)) = (m : Int) + (q : Int) := IntWalk.i64_in _ (by omega)
   have c1 : ¬ (n = m) := by omega
   clear hcp hO2 hW3 hq hO hk
   go_wp2_with fail
   go_region_held3 (fun _ => True) (trivial)
    (first
     | (refine step_copy_run (by rfl) _ _ 22 (by rfl) (.slice (some ⟨g, m, none⟩) (n - m) (n - m)) (.slice (some ⟨g, 0, none⟩) m n) (by rfl) (by rfl) (HCP.out _) ?_))
   go_wp2
   go_roundw
   case rel => exact ⟨m + q, by omega, hq2, by go_num, HO2.out, hk2⟩
   case measure => simp [intOf]; omega
  ·have hmI : ¬ (m : Int) < (n : Int) := by omega
   have t1 : decide ((m : Int) < (n : Int)) = false := decide_eq_false hmI
   obtain rfl : m = n := by omega
   rw [repC_full] at hO
   go_wp2
   go_ret
   exact ⟨g, rfl, Nat.le_of_eq HG.out, by simpa using hO, hk⟩
theorem blank_any (u : World) {n : Nat} (h1 : 1 ≤ n) (hn : n ≤ 5000) :
 Calls Tryz.prog 60 #[.int .i64 (n : Nat)] u fun e w' => ∃ g, e = .returned (.slice (some ⟨g, 0, none⟩) n n) ∧ u.heap.size ≤ g ∧ Own w' g 3 (i64s (List.replicate n (-2147483648))) ∧ Keeps u w' := by
 obtain ⟨W1, hW1⟩ : ∃ W1, u.alloc (.cells #[.int .i64 (-2147483648)] 3) = W1 := ⟨_, rfl⟩
 have hk1 : Keeps u W1 := hW1 ▸ box2 u _
 have hO1 : Own W1 u.heap.size 3 [.int .i64 (-2147483648)] := hW1 ▸ Own.new u _ _
 have HRP := Lib.hid (repeat1_any (c0 := 1) hO1 h1 hn)
 go_enter Tryz.func60, Tryz.ntmps60
 go_wp2_with fail
 refine HRP.out.mono ?_
 rintro e w2 ⟨g, rfl, hg, hO, hk⟩
 go_wp2
 go_ret
 exact ⟨g, rfl, Nat.le_trans hk1.size hg, hO, hk1.trans' hk⟩
end Go.Proofs.YtecibfncnaccjaaGreat
namespace Go.Proofs.YtecibfncnaccjaaGreat

abbrev noZ : Int := -2147483648
def stepW (f : Int → Int → Int) (zs : List Int) (s : Int) (m : Nat) : Int := if isZ zs m then f s (zs.getD m 0) else s
def winR (W j a n : Nat) : List Nat := (List.range' a n).map fun i => j * W + i
def winL (W a n b m : Nat) : List Nat := (List.range' b m).flatMap fun j => winR W j a n
def foldW (f : Int → Int → Int) (zs : List Int) (s : Int) (l : List Nat) : Int := l.foldl (stepW f zs) s
theorem winR_next (W j a n : Nat) : winR W j a (n + 1) = winR W j a n ++ [j * W + (a + n)] := by simp [winR, List.range'_1_concat]
theorem winL_next (W a n b m : Nat) : winL W a n b (m + 1) = winL W a n b m ++ winR W (b + m) a n := by simp [winL, List.range'_1_concat]
theorem foldW_append (f : Int → Int → Int) (zs : List Int) (s : Int) (l r : List Nat) : foldW f zs s (l ++ r) = foldW f zs (foldW f zs s l) r := by simp [foldW]
def cntW (W x r : Nat) : Nat := min (W - 1) (x + r) + 1 - (x - r)
def winK (W H r k : Nat) : List Nat := winL W (k % W - r) (cntW W (k % W) r) (k / W - r) (cntW H (k / W) r)
def filtK (f : Int → Int → Int) (W H r : Nat) (zs : List Int) (k : Nat) : Int := if isZ zs k then foldW f zs (zs.getD k 0) (winK W H r k) else noZ
def filtL (f : Int → Int → Int) (W H r : Nat) (zs : List Int) : List Int := (List.range zs.length).map (filtK f W H r zs)
theorem filtL_length (f : Int → Int → Int) (W H r : Nat) (zs : List Int) : (filtL f W H r zs).length = zs.length := by simp [filtL]
theorem filtL_getD (f : Int → Int → Int) (W H r : Nat) {zs : List Int} {k : Nat} (hk : k < zs.length) : (filtL f W H r zs).getD k 0 = filtK f W H r zs k := by
 simp [filtL, List.getD, hk]
theorem winL_mem {W a n b m k : Nat} : k ∈ winL W a n b m ↔ ∃ j i, b ≤ j ∧ j < b + m ∧ a ≤ i ∧ i < a + n ∧ k = j * W + i := by
 unfold winL winR
 simp only [List.mem_flatMap, List.mem_map, List.mem_range'_1]
 constructor
 ·rintro ⟨j, ⟨h1, h2⟩, i, ⟨h3, h4⟩, rfl⟩
  exact ⟨j, i, h1, h2, h3, h4, rfl⟩
 ·rintro ⟨j, i, h1, h2, h3, h4, rfl⟩
  exact ⟨j, ⟨h1, h2⟩, i, ⟨h3, h4⟩, rfl⟩
theorem div_lt_of {W H k : Nat} (hk : k < W * H) : k % W < W ∧ k / W < H := by
 have hW : 0 < W := by rcases Nat.eq_zero_or_pos W with rfl | h; · simp at hk
                       ·exact h
 exact ⟨Nat.mod_lt _ hW, by rw [Nat.div_lt_iff_lt_mul hW, Nat.mul_comm]; exact hk⟩
theorem winL_pt {W H r x y j i : Nat} (hx : x < W) (hy : y < H) (h1 : y - r ≤ j) (h2 : j < y - r + cntW H y r) (h3 : x - r ≤ i) (h4 : i < x - r + cntW W x r) : i < W ∧ j < H ∧ i ≤ x + r ∧ x ≤ i + r ∧ j ≤ y + r ∧ y ≤ j + r := by
 unfold cntW at h2 h4
 omega
theorem winL_tp {W H r x y j i : Nat} (h1 : i < W) (h2 : j < H) (h3 : i ≤ x + r) (h4 : x ≤ i + r) (h5 : j ≤ y + r) (h6 : y ≤ j + r) : y - r ≤ j ∧ j < y - r + cntW H y r ∧ x - r ≤ i ∧ i < x - r + cntW W x r := by
 unfold cntW
 omega
theorem winK_mem {W H r k m : Nat} (hk : k < W * H) : m ∈ winK W H r k ↔ m < W * H ∧ m % W ≤ k % W + r ∧ k % W ≤ m % W + r ∧ m / W ≤ k / W + r ∧ k / W ≤ m / W + r := by
 obtain ⟨hx, hy⟩ := div_lt_of hk
 unfold winK
 rw [winL_mem]
 constructor
 ·rintro ⟨j, i, h1, h2, h3, h4, rfl⟩
  obtain ⟨hi, hj, a1, a2, a3, a4⟩ := winL_pt hx hy h1 h2 h3 h4
  rw [idx_mod hi, idx_div hi]
  exact ⟨idx_lt hi hj, a1, a2, a3, a4⟩
 ·rintro ⟨hm, h1, h2, h3, h4⟩
  obtain ⟨hi, hj⟩ := div_lt_of hm
  obtain ⟨a1, a2, a3, a4⟩ := winL_tp hi hj h1 h2 h3 h4
  refine ⟨m / W, m % W, a1, a2, a3, a4, ?_⟩
  have := Nat.div_add_mod m W
  rw [Nat.mul_comm] at this
  exact this.symm
theorem winK_self {W H r k : Nat} (hk : k < W * H) : k ∈ winK W H r k := (winK_mem hk).2 ⟨hk, Nat.le_add_right _ _, Nat.le_add_right _ _, Nat.le_add_right _ _, Nat.le_add_right _ _⟩
theorem winK_symm {W H r k m : Nat} (hk : k < W * H) (h : m ∈ winK W H r k) : k ∈ winK W H r m := by
 obtain ⟨h0, h1, h2, h3, h4⟩ := (winK_mem hk).1 h
 exact (winK_mem h0).2 ⟨hk, h2, h1, h4, h3⟩
theorem foldW_all {f : Int → Int → Int} {zs : List Int} {p : Int → Prop} (hf : ∀ a b, p a → p b → p (f a b)) : ∀ {l : List Nat} {s : Int}, p s → (∀ m ∈ l, isZ zs m = true → p (zs.getD m 0)) → p (foldW f zs s l)
 | [], _, hs, _ => hs
 | a :: l, s, hs, h => by
  show p (foldW f zs (stepW f zs s a) l)
  refine foldW_all hf ?_ fun m hm => h m (List.mem_cons_of_mem _ hm)
  unfold stepW
  cases hz : isZ zs a
  ·simpa using hs
  ·simpa using hf _ _ hs (h a List.mem_cons_self hz)
theorem foldW_le {zs : List Int} : ∀ {l : List Nat} {s : Int}, foldW min zs s l ≤ s
 | [], _ => Int.le_refl _
 | a :: l, s => by
  have h : foldW min zs (stepW min zs s a) l ≤ stepW min zs s a := foldW_le
  have h2 : stepW min zs s a ≤ s := by unfold stepW; split <;> omega
  exact Int.le_trans h h2
theorem foldW_min {zs : List Int} : ∀ {l : List Nat} {s : Int} {m : Nat}, m ∈ l → isZ zs m = true → foldW min zs s l ≤ zs.getD m 0
 | a :: l, s, m, hm, hz => by
  show foldW min zs (stepW min zs s a) l ≤ _
  rcases List.mem_cons.1 hm with rfl | hm
  ·have h : foldW min zs (stepW min zs s m) l ≤ stepW min zs s m := foldW_le
   have h2 : stepW min zs s m ≤ zs.getD m 0 := by unfold stepW; rw [if_pos hz]; omega
   exact Int.le_trans h h2
  ·exact foldW_min hm hz
section
variable {f : Int → Int → Int} {W H r : Nat} {zs : List Int} {p : Int → Prop}
def AllZ (p : Int → Prop) (zs : List Int) : Prop := ∀ k, k < zs.length → isZ zs k = true → p (zs.getD k 0)
theorem filt_all (hf : ∀ a b, p a → p b → p (f a b)) (hl : zs.length = W * H) (hz : AllZ p zs) {k : Nat} (hk : k < zs.length) (h : isZ zs k = true) : p ((filtL f W H r zs).getD k 0) := by
 rw [filtL_getD _ _ _ _ hk, filtK, if_pos h]
 exact foldW_all hf (hz k hk h) fun m hm h2 => hz m (by rw [hl] at hk ⊢; exact ((winK_mem hk).1 hm).1) h2
theorem filt_isZ (hf : ∀ a b, p a → p b → p (f a b)) (hn : ∀ a, p a → a ≠ noZ) (hl : zs.length = W * H) (hz : AllZ p zs) {k : Nat} (hk : k < zs.length) : isZ (filtL f W H r zs) k = isZ zs k := by
 cases h : isZ zs k with
 | true => exact bne_iff_ne.2 (hn _ (filt_all hf hl hz hk h))
 | false =>
  unfold isZ
  rw [filtL_getD _ _ _ _ hk, filtK, if_neg (by simp [h])]
  rfl
theorem filt_AllZ (hf : ∀ a b, p a → p b → p (f a b)) (hn : ∀ a, p a → a ≠ noZ) (hl : zs.length = W * H) (hz : AllZ p zs) : AllZ p (filtL f W H r zs) := fun k hk h => by
 rw [filtL_length] at hk
 rw [filt_isZ hf hn hl hz hk] at h
 exact filt_all hf hl hz hk h
end
def openL (W H r : Nat) (zs : List Int) : List Int := filtL max W H r (filtL min W H r zs)
def InZ (b : Int) (z : Int) : Prop := -b ≤ z ∧ z ≤ b
theorem inZ_min {b x y : Int} (h1 : InZ b x) (h2 : InZ b y) : InZ b (min x y) := by unfold InZ at *; omega
theorem inZ_max {b x y : Int} (h1 : InZ b x) (h2 : InZ b y) : InZ b (max x y) := by unfold InZ at *; omega
section
variable {W H r : Nat} {zs : List Int} {b : Int}
theorem openL_length : (openL W H r zs).length = zs.length := by unfold openL; rw [filtL_length, filtL_length]
theorem open_isZ (hb : b ≤ 2147483647) (hl : zs.length = W * H) (hz : AllZ (InZ b) zs) {k : Nat} (hk : k < zs.length) : isZ (openL W H r zs) k = isZ zs k := by
 have hn : ∀ a, InZ b a → a ≠ noZ := fun a h => by unfold InZ at h; unfold noZ; omega
 unfold openL
 rw [filt_isZ (p := InZ b) (fun _ _ => inZ_max) hn (by rw [filtL_length]; exact hl) (filt_AllZ (fun _ _ => inZ_min) hn hl hz) (by rw [filtL_length]; exact hk), filt_isZ (p := InZ b) (fun _ _ => inZ_min) hn hl hz hk]
theorem open_AllZ (hb : b ≤ 2147483647) (hl : zs.length = W * H) (hz : AllZ (InZ b) zs) : AllZ (InZ b) (openL W H r zs) := by
 have hn : ∀ a, InZ b a → a ≠ noZ := fun a h => by unfold InZ at h; unfold noZ; omega
 exact filt_AllZ (fun _ _ => inZ_max) hn (by rw [filtL_length]; exact hl) (filt_AllZ (fun _ _ => inZ_min) hn hl hz)
theorem open_le (hb : b ≤ 2147483647) (hl : zs.length = W * H) (hz : AllZ (InZ b) zs) {k : Nat} (hk : k < zs.length) (h : isZ zs k = true) : (openL W H r zs).getD k 0 ≤ zs.getD k 0 := by
 have hn : ∀ a, InZ b a → a ≠ noZ := fun a h => by unfold InZ at h; unfold noZ; omega
 have he : ∀ m, m ∈ winK W H r k → isZ zs m = true → (filtL min W H r zs).getD m 0 ≤ zs.getD k 0 := fun m hm hzm => by
  have hml : m < zs.length := by rw [hl] at hk ⊢; exact ((winK_mem hk).1 hm).1
  rw [filtL_getD _ _ _ _ hml, filtK, if_pos hzm]
  exact foldW_min (winK_symm (by rw [← hl]; exact hk) hm) h
 have hi : isZ (filtL min W H r zs) k = true := by rw [filt_isZ (p := InZ b) (fun _ _ => inZ_min) hn hl hz hk]; exact h
 unfold openL
 rw [filtL_getD _ _ _ _ (by rw [filtL_length]; exact hk), filtK, if_pos hi]
 refine foldW_all (p := fun z => z ≤ zs.getD k 0) (fun a b h1 h2 => by omega) (he k (winK_self (by rw [← hl]; exact hk)) h) fun m hm h2 => he m hm ?_
 rw [filt_isZ (p := InZ b) (fun _ _ => inZ_min) hn hl hz (by rw [hl] at hk ⊢; exact ((winK_mem hk).1 hm).1)] at h2
 exact h2
end
end Go.Proofs.YtecibfncnaccjaaGreat
namespace Go.Proofs.YtecibfncnaccjaaGreat
open Go.RowKit Go.Shelf
theorem St.put6 {w0 w : World} {bs : List Bx} {ps : List (World → Prop)} (S : St w0 w bs ps) (i : Nat) {B : Nat} {t : TypeId} {v0 v1 v2 v3 v4 v5 x0 x1 x2 x3 x4 x5 : Value} (hi : bs[i]? = some (B, t, [v0, v1, v2, v3, v4, v5])) (hv : [v0, v1, v2, v3, v4, v5].all noU32 = true) (hv' : [x0, x1, x2, x3, x4].all noU32 = true) :
 St w0 ((((((w.setCell ⟨B, 0, none⟩ x0).setCell ⟨B, 1, none⟩ x1).setCell ⟨B, 2, none⟩ x2).setCell ⟨B, 3, none⟩ x3).setCell ⟨B, 4, none⟩ x4).setCell ⟨B, 5, none⟩ x5) (bs.set i (B, t, [x0, x1, x2, x3, x4, x5])) ps := by
 simp only [List.all_cons, List.all_nil, Bool.and_true, Bool.and_eq_true] at hv hv'
 have hlt := (List.getElem?_eq_some_iff.1 hi).1
 have S1 := S.put i 0 hi (by simp [hv]) x0
 have h1 : (bs.set i (B, t, [v0, v1, v2, v3, v4, v5].set 0 x0))[i]? = some (B, t, [x0, v1, v2, v3, v4, v5]) := by rw [List.getElem?_set_self hlt]; rfl
 have S2 := S1.put i 1 h1 (by simp [hv, hv']) x1
 rw [List.set_set] at S2
 have h2 : (bs.set i (B, t, [x0, v1, v2, v3, v4, v5].set 1 x1))[i]? = some (B, t, [x0, x1, v2, v3, v4, v5]) := by rw [List.getElem?_set_self hlt]; rfl
 have S3 := S2.put i 2 h2 (by simp [hv, hv']) x2
 rw [List.set_set] at S3
 have h3 : (bs.set i (B, t, [x0, x1, v2, v3, v4, v5].set 2 x2))[i]? = some (B, t, [x0, x1, x2, v3, v4, v5]) := by rw [List.getElem?_set_self hlt]; rfl
 have S4 := S3.put i 3 h3 (by simp [hv, hv']) x3
 rw [List.set_set] at S4
 have h4 : (bs.set i (B, t, [x0, x1, x2, v3, v4, v5].set 3 x3))[i]? = some (B, t, [x0, x1, x2, x3, v4, v5]) := by rw [List.getElem?_set_self hlt]; rfl
 have S5 := S4.put i 4 h4 (by simp [hv, hv']) x4
 rw [List.set_set] at S5
 have h5 : (bs.set i (B, t, [x0, x1, x2, x3, v4, v5].set 4 x4))[i]? = some (B, t, [x0, x1, x2, x3, x4, v5]) := by rw [List.getElem?_set_self hlt]; rfl
 have S6 := S5.put i 5 h5 (by simp [hv, hv']) x5
 rw [List.set_set] at S6
 exact S6
set_option maxRecDepth 100000 in
theorem with_any {w : World} (gx gy st W H : Int) (A A' : Option Addr) (n c n' c' : Nat) :
 Calls Tryz.prog 62 #[grV gx gy st W H A n c, .slice A' n' c'] w fun e w' => e = .returned (grV gx gy st W H A' n' c') ∧ Keeps w w' := by
 have S := ((St.start w).alloc 24 (grL gx gy st W H A n c)).alloc 24 [.int .i64 0, .int .i64 0, .int .i64 0, .int .i64 0, .int .i64 0, .slice none 0 0]
 simp only [World.size_alloc] at S
 obtain ⟨W0, hW0, S⟩ := S.pack
 obtain ⟨x0, x1, x2, x3, x4, x5⟩ := S.cc6 1 rfl
 have f5 := S.f 1 5 rfl
 go_enter Tryz.func62, Tryz.ntmps62
 go_upto_region 2 with fail
 replace S := S.put 1 5 rfl rfl (.slice A' n' c')
 obtain ⟨W1, hW1, S⟩ := S.pack
 rw [hW1]
 clear hW1 hW0 x0 x1 x2 x3 x4 x5 f5
 obtain ⟨x0, x1, x2, x3, x4, x5⟩ := S.cc6 1 rfl
 obtain ⟨y0, y1, y2, y3, y4, y5⟩ := S.cc6 0 rfl
 obtain ⟨f0, f1, f2, f3, f4, f5⟩ := S.ff6 0 rfl
 have S2 := S.put6 0 rfl rfl rfl (x0 := .int .i64 gx) (x1 := .int .i64 gy) (x2 := .int .i64 st) (x3 := .int .i64 W) (x4 := .int .i64 H) (x5 := .slice A' n' c')
 go_wp2
 refine bodyPost_ret (v := .agg #[.int .i64 gx, .int .i64 gy, .int .i64 st, .int .i64 W, .int .i64 H, .slice A' n' c']) (by simp [results, Tryz.results62, go_sem, S2.c 0 0 rfl rfl, S2.c 0 1 rfl rfl, S2.c 0 2 rfl rfl, S2.c 0 3 rfl rfl, S2.c 0 4 rfl rfl, S2.c 0 5 rfl rfl]) rfl ?_
 exact ⟨rfl, S2.k⟩
theorem i64s_u32 (l : List Int) : (i64s l).all noU32 = true := by simp [i64s, noU32]
theorem St.putI {w0 w : World} {g : Nat} {t : TypeId} {L : List Int} {bs : List Bx} {ps : List (World → Prop)} (S : St w0 w ((g, t, i64s L) :: bs) ps) (k : Nat) (x : Int) : St w0 (w.setCell ⟨g, k, none⟩ (.int .i64 x)) ((g, t, i64s (L.set k x)) :: bs) ps := by
 have h := S.put 0 k rfl (i64s_u32 L) (.int .i64 x)
 rw [i64s_set] at h
 exact h
theorem i64s_at {l : List Int} {k : Nat} (h : k < l.length) : (i64s l)[k]? = some (.int .i64 (l.getD k 0)) := by simp [i64s, List.getD, h]
def partF (f : Int → Int → Int) (W H r : Nat) (zs : List Int) (k : Nat) : List Int := (List.range zs.length).map fun m => if m < k then filtK f W H r zs m else noZ
section
variable {f : Int → Int → Int} {W H r k : Nat} {zs : List Int}
theorem pf_length : (partF f W H r zs k).length = zs.length := by simp [partF]
theorem pf_0 : partF f W H r zs 0 = List.replicate zs.length noZ := by
 unfold partF
 simp [List.map_const']
theorem pf_end : partF f W H r zs zs.length = filtL f W H r zs := by
 unfold partF filtL
 exact List.map_congr_left fun m hm => by rw [if_pos (List.mem_range.1 hm)]
theorem pf_next (_ : k < zs.length) : (partF f W H r zs k).set k (filtK f W H r zs k) = partF f W H r zs (k + 1) := by
 apply List.ext_getElem
 ·simp [partF]
 ·intro m h1 h2
  simp only [partF, List.getElem_set, List.getElem_map, List.getElem_range]
  by_cases h : k = m
  ·subst h; simp
  ·rw [if_neg h]
   by_cases h3 : m < k
   ·rw [if_pos h3, if_pos (by omega)]
   ·rw [if_neg h3, if_neg (by omega)]
theorem pf_none (hk : k < zs.length) (hz : isZ zs k = false) : partF f W H r zs k = partF f W H r zs (k + 1) := by
 rw [← pf_next hk]
 apply List.ext_getElem
 ·simp [partF]
 ·intro m h1 h2
  simp only [partF, List.getElem_set, List.getElem_map, List.getElem_range]
  by_cases h : k = m
  ·subst h; rw [if_pos rfl, if_neg (by omega), filtK, if_neg (by simp [hz])]
  ·rw [if_neg h]
end
theorem least_any (w : World) (a b : Int) : Calls Tryz.prog 90 #[.int .i64 a, .int .i64 b] w fun e w' => e = .returned (.int .i64 (min a b)) ∧ Keeps w w' := by
 go_enter Tryz.func90, Tryz.ntmps90
 go_wp2
 go_ret
 exact ⟨rfl, Below.refl _ _⟩
theorem greatest_any (w : World) (a b : Int) : Calls Tryz.prog 91 #[.int .i64 a, .int .i64 b] w fun e w' => e = .returned (.int .i64 (max a b)) ∧ Keeps w w' := by
 go_enter Tryz.func91, Tryz.ntmps91
 go_wp2
 go_ret
 exact ⟨rfl, Below.refl _ _⟩
theorem own_irow {w : World} {g : Nat} {t : TypeId} {l : List Int} (h : Own w g t (i64s l)) : IRow w (some ⟨g, 0, none⟩) l := fun hn => ⟨g, 0, rfl, h.lt, fun j hj => by
 show w.cell? ⟨g, 0 + j, none⟩ = _
 rw [Nat.zero_add, h.cell, i64s_at hj]
 rfl⟩
set_option maxRecDepth 100000 in
set_option maxHeartbeats 2000000 in
theorem filtered_min {w : World} {A : Option Addr} {c : Nat} {zs : List Int} (hr : IRow w A zs) (gx gy st : Int) (W H r : Nat) (hW : 2 ≤ W ∧ W ≤ 64) (hH : 2 ≤ H ∧ H ≤ 64) (hrr : r ≤ 8) (hl : zs.length = W * H) :
 Calls Tryz.prog 89 #[grV gx gy st (W : Nat) (H : Nat) A zs.length c, .int .i64 (r : Nat), .func (.func 90) #[] #[]] w fun e w' => ∃ g, e = .returned (grV gx gy st (W : Nat) (H : Nat) (some ⟨g, 0, none⟩) zs.length zs.length) ∧ w.heap.size ≤ g ∧ Own w' g 3 (i64s (filtL min W H r zs)) ∧ Keeps w w' := by
 have S := ((St.start w).alloc 24 (grL gx gy st (W : Nat) (H : Nat) A zs.length c)).alloc 24 [.int .i64 0, .int .i64 0, .int .i64 0, .int .i64 0, .int .i64 0, .slice none 0 0]
 simp only [World.size_alloc] at S
 obtain ⟨W0, hW0, S⟩ := S.pack
 have hn4 : zs.length ≤ 4096 := by rw [hl]; exact Nat.mul_le_mul hW.2 hH.2
 have hn1 : 1 ≤ zs.length := by rw [hl]; exact Nat.mul_pos (by omega) (by omega)
 have HBL := Lib.hid (fun u => blank_any u (n := zs.length) hn1 (by omega))
 have HR := Lib.hid hr
 have HL := Lib.hid hl
 have HP0 : Hid (partF min W H r zs 0 = List.replicate zs.length noZ) := Lib.hid pf_0
 have HPN : Hid (∀ k, k < zs.length → (partF min W H r zs k).set k (filtK min W H r zs k) = partF min W H r zs (k + 1)) := Lib.hid fun k hk => pf_next hk
 have HPZ : Hid (∀ k, k < zs.length → isZ zs k = false → partF min W H r zs k = partF min W H r zs (k + 1)) := Lib.hid fun k hk hz => pf_none hk hz
 have HPL : Hid (∀ k, (partF min W H r zs k).length = zs.length) := Lib.hid fun k => pf_length
 have HPE : Hid (partF min W H r zs zs.length = filtL min W H r zs) := Lib.hid pf_end
 obtain ⟨n, hn⟩ : ∃ n, zs.length = n := ⟨_, rfl⟩
 have HN := Lib.hid hn
 rw [hn] at hn4 hn1 HBL HP0 HPN HPZ HPL HPE S hW0 ⊢
 have hnI : (n : Int) ≤ 4096 := by omega
 obtain ⟨hW1, hW2⟩ := hW
 obtain ⟨hH1, hH2⟩ := hH
 clear hr hl hn
 obtain ⟨x0, x1, x2, x3, x4, x5⟩ := S.cc6 1 rfl
 go_enter Tryz.func89, Tryz.ntmps89
 go_wp2_with fail
 refine (HBL.out _).mono ?_
 rintro e W1 ⟨g, rfl, hg, hO, hk⟩
 replace S := S.box (S.below hk) hO hg
 clear hk hO hg hW0 x0 x1 x2 x3 x4 x5
 obtain ⟨x0, x1, x2, x3, x4, x5⟩ := S.cc6 2 rfl
 go_wp2
 go_loopw [22] (fun i wr => ∃ k : Nat, k ≤ n ∧ i = .int .i64 (k : Nat) ∧ St w wr [(g, 3, i64s (partF min W H r zs k)), (w.heap.size + 1, 24, [.int .i64 0, .int .i64 0, .int .i64 0, .int .i64 0, .int .i64 0, .slice none 0 0]), (w.heap.size, 24, grL gx gy st (W : Nat) (H : Nat) A n c)] []) (fun i _ => n - (intOf i).toNat)
 case atStart => exact ⟨0, Nat.zero_le _, rfl, by rw [HP0.out]; exact S⟩
 case round =>
  clear S x0 x1 x2 x3 x4 x5
  obtain ⟨k, hk, rfl, S⟩ := hrel
  by_cases hlt : k < n
  ·have hkI : (k : Int) < (n : Int) := by omega
   have t1 : decide ((k : Int) < (n : Int)) = true := decide_eq_true hkI
   obtain ⟨bz, oz, rfl, z0⟩ := IRow.at (HR.out.below S.k) (j := k) (by rw [HN.out]; exact hlt)
   have x3 := S.c 2 3 rfl rfl
   have x4 := S.c 2 4 rfl rfl
   have x5 := S.c 2 5 rfl rfl
   cases hz : isZ zs k with
   | false =>
    have d0 : (zs.getD k 0 == -2147483648) = true := by unfold isZ at hz; simpa using hz
    have HZ := Lib.hid (HPZ.out k hlt hz)
    clear hz
    generalize zs.getD k 0 = v at *
    go_wp2
    go_roundw
    case rel => exact ⟨k + 1, by omega, by go_num, by rw [← HZ.out]; exact S⟩
    case measure => simp [intOf]; omega
   | true =>
    have d0 : (zs.getD k 0 == -2147483648) = false := by unfold isZ at hz; simpa using hz
    have hFK : foldW min zs (zs.getD k 0) (winL W (k % W - r) (cntW W (k % W) r) (k / W - r) (cntW H (k / W) r)) = filtK min W H r zs k := by rw [filtK, if_pos hz]; rfl
    have hPN := HPN.out k hlt
    rw [← hFK] at hPN
    obtain ⟨hxW, hyH⟩ := div_lt_of (W := W) (H := H) (k := k) (by rw [← HL.out, HN.out]; exact hlt)
    have em : ((k : Int)).tmod (W : Int) = ((k % W : Nat) : Int) := by rw [Int.tmod_eq_emod_of_nonneg (by omega)]; rfl
    have ed : ((k : Int)).tdiv (W : Int) = ((k / W : Nat) : Int) := by rw [Int.tdiv_eq_ediv_of_nonneg (by omega)]; rfl
    have hLk : k < (partF min W H r zs k).length := by rw [HPL.out]; exact hlt
    obtain ⟨x, hx⟩ : ∃ x, k % W = x := ⟨_, rfl⟩
    obtain ⟨y, hy⟩ : ∃ y, k / W = y := ⟨_, rfl⟩
    rw [hx] at em hxW hPN
    rw [hy] at ed hyH hPN
    have hna : x - r + cntW W x r = min (W - 1) (x + r) + 1 := by unfold cntW; omega
    have hnb : y - r + cntW H y r = min (H - 1) (y + r) + 1 := by unfold cntW; omega
    have ea : max 0 ((x : Int) - (r : Int)) = ((x - r : Nat) : Int) := by omega
    have eb : max 0 ((y : Int) - (r : Int)) = ((y - r : Nat) : Int) := by omega
    have eA : min ((W : Int) - 1) ((x : Int) + (r : Int)) = ((min (W - 1) (x + r) : Nat) : Int) := by omega
    have eB : min ((H : Int) - 1) ((y : Int) + (r : Int)) = ((min (H - 1) (y + r) : Nat) : Int) := by omega
    have hmA : min (W - 1) (x + r) < W := by omega
    have hmB : min (H - 1) (y + r) < H := by omega
    obtain ⟨v, hv⟩ : ∃ v, zs.getD k 0 = v := ⟨_, rfl⟩
    rw [hv] at z0 d0 hPN
    have HNX := Lib.hid hPN
    obtain ⟨L0, hL0⟩ : ∃ L, partF min W H r zs k = L := ⟨_, rfl⟩
    rw [hL0] at S hLk HNX
    generalize x - r = a at *
    generalize y - r = b at *
    generalize cntW W x r = na at *
    generalize cntW H y r = nb at *
    generalize min (W - 1) (x + r) = ma at *
    generalize min (H - 1) (y + r) = mb at *
    have hxI : (x : Int) ≤ 63 := by omega
    have hyI : (y : Int) ≤ 63 := by omega
    have hrI : (r : Int) ≤ 8 := by omega
    have hWI : (W : Int) ≤ 64 := by omega
    have hHI : (H : Int) ≤ 64 := by omega
    have hWp : (2 : Int) ≤ (W : Int) := by omega
    have hHp : (2 : Int) ≤ (H : Int) := by omega
    have hwk := S.c 0 k rfl (i64s_at hLk)
    have hfk := S.f 0 k rfl
    clear hz hFK hPN hv hL0 hx hy
    go_upto_region 7 with fail
    replace S := S.putI k v
    obtain ⟨W3, hW3, S⟩ := S.pack
    rw [hW3]
    clear hW3 z0 hwk hfk x3 x4 x5
    have x3 := S.c 2 3 rfl rfl
    have x4 := S.c 2 4 rfl rfl
    have x5 := S.c 2 5 rfl rfl
    go_quiet (fail)
    replace S := S.below (below_drewN (Below.refl _ W3) nq)
    go_wp2
    generalize W3.drewN nq = W4 at *
    have HEA := Lib.hid ea
    clear x3 x4 x5 em ed ea eb
    have x3 := S.c 2 3 rfl rfl
    have x4 := S.c 2 4 rfl rfl
    have x5 := S.c 2 5 rfl rfl
    go_loopw [12] (fun i wr => ∃ yy j : Nat, b + j = yy ∧ j ≤ nb ∧ i = .int .i64 (yy : Nat) ∧ St w wr [(g, 3, i64s (L0.set k (foldW min zs v (winL W a na b j)))), (w.heap.size + 1, 24, [.int .i64 0, .int .i64 0, .int .i64 0, .int .i64 0, .int .i64 0, .slice none 0 0]), (w.heap.size, 24, grL gx gy st (W : Nat) (H : Nat) (some ⟨bz, oz, none⟩) n c)] []) (fun i _ => b + nb - (intOf i).toNat)
    case atStart => exact ⟨b, 0, rfl, Nat.zero_le _, rfl, S⟩
    case round =>
     clear S x3 x4 x5
     obtain ⟨yy, j, hyy, hj, rfl, S⟩ := hrel
     have x3 := S.c 2 3 rfl rfl
     have x4 := S.c 2 4 rfl rfl
     have x5 := S.c 2 5 rfl rfl
     by_cases hjl : j < nb
     ·have hyl : yy ≤ mb := by omega
      have hylI : (yy : Int) ≤ (mb : Int) := by omega
      have t2 : decide ((yy : Int) ≤ (mb : Int)) = true := decide_eq_true hylI
      have hyyH : yy < H := by omega
      have hyyI : (yy : Int) ≤ 63 := by omega
      obtain ⟨s0, hs0⟩ : ∃ s, foldW min zs v (winL W a na b j) = s := ⟨_, rfl⟩
      rw [hs0] at S
      have HSE : Hid (foldW min zs s0 (winR W yy a na) = foldW min zs v (winL W a na b (j + 1))) := Lib.hid (by rw [← hs0, ← foldW_append, winL_next, hyy])
      have ea := HEA.out
      clear hs0
      go_wp2
      clear ea
      go_loopw [13] (fun i wr => ∃ xx i' : Nat, a + i' = xx ∧ i' ≤ na ∧ i = .int .i64 (xx : Nat) ∧ St w wr [(g, 3, i64s (L0.set k (foldW min zs s0 (winR W yy a i')))), (w.heap.size + 1, 24, [.int .i64 0, .int .i64 0, .int .i64 0, .int .i64 0, .int .i64 0, .slice none 0 0]), (w.heap.size, 24, grL gx gy st (W : Nat) (H : Nat) (some ⟨bz, oz, none⟩) n c)] []) (fun i _ => a + na - (intOf i).toNat)
      case atStart => exact ⟨a, 0, rfl, Nat.zero_le _, rfl, S⟩
      case round =>
       clear S x3 x4 x5
       obtain ⟨xx, i, hxx, hi, rfl, S⟩ := hrel
       have x3 := S.c 2 3 rfl rfl
       have x4 := S.c 2 4 rfl rfl
       have x5 := S.c 2 5 rfl rfl
       by_cases hil : i < na
       ·have hxl : xx ≤ ma := by omega
        have hxlI : (xx : Int) ≤ (ma : Int) := by omega
        have t3 : decide ((xx : Int) ≤ (ma : Int)) = true := decide_eq_true hxlI
        have hxxI : (xx : Int) ≤ 63 := by omega
        have hmn : yy * W + xx < W * H := idx_lt (by omega) hyyH
        rw [← HL.out, HN.out] at hmn
        obtain ⟨bz', oz', e0, z1⟩ := IRow.at (HR.out.below S.k) (j := yy * W + xx) (by rw [HN.out]; exact hmn)
        cases e0
        obtain ⟨s, hs⟩ : ∃ s, foldW min zs s0 (winR W yy a i) = s := ⟨_, rfl⟩
        rw [hs] at S
        have hnx : foldW min zs s0 (winR W yy a (i + 1)) = stepW min zs s (yy * W + xx) := by rw [winR_next, foldW_append, hs, hxx]; rfl
        have hq : (yy : Int) * (W : Int) = ((yy * W : Nat) : Int) := by simp
        have hyW : yy * W ≤ 63 * 64 := Nat.mul_le_mul (by omega) hW2
        obtain ⟨p, hp⟩ : ∃ p, yy * W = p := ⟨_, rfl⟩
        rw [hp] at hq hyW hmn z1 hnx
        have hpI : (p : Int) ≤ 4032 := by omega
        have hmI : (p : Int) + (xx : Int) < (n : Int) := by omega
        cases hzm : isZ zs (p + xx) with
        | false =>
         have d1 : (zs.getD (p + xx) 0 != -2147483648) = false := hzm
         have hst : stepW min zs s (p + xx) = s := by unfold stepW; rw [if_neg (by simp [hzm])]
         rw [hst] at hnx
         have HNS := Lib.hid hnx
         generalize zs.getD (p + xx) 0 = v1 at *
         clear hzm hst hnx hs hp
         go_wp2
         go_roundw
         case rel => exact ⟨xx + 1, i + 1, by omega, by omega, by go_num, by rw [HNS.out]; exact S⟩
         case measure => simp [intOf]; omega
        | true =>
         have d1 : (zs.getD (p + xx) 0 != -2147483648) = true := hzm
         have hst : stepW min zs s (p + xx) = min s (zs.getD (p + xx) 0) := by unfold stepW; rw [if_pos hzm]
         rw [hst] at hnx
         have HNS := Lib.hid hnx
         generalize zs.getD (p + xx) 0 = v1 at *
         have hLk2 : k < (L0.set k s).length := by rw [List.length_set]; exact hLk
         have hwk : wr.cell? ⟨g, k, none⟩ = some (.int .i64 s) := S.c 0 k rfl (by rw [i64s_at hLk2]; simp [List.getD, hLk])
         have HF := Lib.hid (fun u => least_any u s v1)
         clear hzm hst hnx hs hp
         go_wp2_with fail
         refine (HF.out _).mono ?_
         rintro e W5 ⟨rfl, hk5⟩
         clear hwk x3 x4 x5 z1
         replace S := S.below hk5
         have hwk := S.c 0 k rfl (i64s_at hLk2)
         have hfk := S.f 0 k rfl
         clear hk5
         have S2 := S.putI k (min s v1)
         rw [List.set_set] at S2
         go_wp2
         go_roundw
         case rel => exact ⟨xx + 1, i + 1, by omega, by omega, by go_num, by rw [HNS.out]; exact S2⟩
         case measure => simp [intOf]; omega
       ·have hxl : ¬ xx ≤ ma := by omega
        have hxlI : ¬ (xx : Int) ≤ (ma : Int) := by omega
        have t3 : decide ((xx : Int) ≤ (ma : Int)) = false := decide_eq_false hxlI
        obtain rfl : i = na := by omega
        rw [HSE.out] at S
        go_wp2
        go_roundw
        case rel => exact ⟨yy + 1, j + 1, by omega, by omega, by go_num, S⟩
        case measure => simp [intOf]; omega
     ·have hyl : ¬ yy ≤ mb := by omega
      have hylI : ¬ (yy : Int) ≤ (mb : Int) := by omega
      have t2 : decide ((yy : Int) ≤ (mb : Int)) = false := decide_eq_false hylI
      obtain rfl : j = nb := by omega
      rw [HNX.out] at S
      go_wp2
      go_roundw
      case rel => exact ⟨k + 1, by omega, by go_num, S⟩
      case measure => simp [intOf]; omega
  ·have hkI : ¬ (k : Int) < (n : Int) := by omega
   have t1 : decide ((k : Int) < (n : Int)) = false := decide_eq_false hkI
   obtain ⟨x0, x1, x2, x3, x4, x5⟩ := S.cc6 2 rfl
   obtain rfl : k = n := by omega
   rw [HPE.out] at S
   obtain ⟨y0, y1, y2, y3, y4, y5⟩ := S.cc6 1 rfl
   obtain ⟨f0, f1, f2, f3, f4, f5⟩ := S.ff6 1 rfl
   go_wp2_with fail
   refine (with_any (w := wr) gx gy st (W : Nat) (H : Nat) A (some ⟨g, 0, none⟩) k c k k).mono ?_
   rintro e W5 ⟨rfl, hk5⟩
   clear x0 x1 x2 x3 x4 x5 y0 y1 y2 y3 y4 y5 f0 f1 f2 f3 f4 f5
   replace S := S.below hk5
   clear hk5
   obtain ⟨f0, f1, f2, f3, f4, f5⟩ := S.ff6 1 rfl
   obtain ⟨y0, y1, y2, y3, y4, y5⟩ := S.cc6 1 rfl
   have S2 := S.put6 1 rfl rfl rfl (x0 := .int .i64 gx) (x1 := .int .i64 gy) (x2 := .int .i64 st) (x3 := .int .i64 (W : Nat)) (x4 := .int .i64 (H : Nat)) (x5 := .slice (some ⟨g, 0, none⟩) k k)
   go_wp2
   refine bodyPost_ret (v := .agg #[.int .i64 gx, .int .i64 gy, .int .i64 st, .int .i64 (W : Nat), .int .i64 (H : Nat), .slice (some ⟨g, 0, none⟩) k k]) (by simp [results, Tryz.results89, go_sem, S2.c 1 0 rfl rfl, S2.c 1 1 rfl rfl, S2.c 1 2 rfl rfl, S2.c 1 3 rfl rfl, S2.c 1 4 rfl rfl, S2.c 1 5 rfl rfl]) rfl ?_
   have hO9 := S2.o (p := (g, 3, i64s (filtL min W H r zs))) 0 rfl
   exact ⟨g, rfl, S2.lo (g, 3, i64s (filtL min W H r zs)) List.mem_cons_self, hO9, S2.k⟩
set_option maxRecDepth 100000 in
set_option maxHeartbeats 2000000 in
theorem filtered_max {w : World} {A : Option Addr} {c : Nat} {zs : List Int} (hr : IRow w A zs) (gx gy st : Int) (W H r : Nat) (hW : 2 ≤ W ∧ W ≤ 64) (hH : 2 ≤ H ∧ H ≤ 64) (hrr : r ≤ 8) (hl : zs.length = W * H) :
 Calls Tryz.prog 89 #[grV gx gy st (W : Nat) (H : Nat) A zs.length c, .int .i64 (r : Nat), .func (.func 91) #[] #[]] w fun e w' => ∃ g, e = .returned (grV gx gy st (W : Nat) (H : Nat) (some ⟨g, 0, none⟩) zs.length zs.length) ∧ w.heap.size ≤ g ∧ Own w' g 3 (i64s (filtL max W H r zs)) ∧ Keeps w w' := by
 have S := ((St.start w).alloc 24 (grL gx gy st (W : Nat) (H : Nat) A zs.length c)).alloc 24 [.int .i64 0, .int .i64 0, .int .i64 0, .int .i64 0, .int .i64 0, .slice none 0 0]
 simp only [World.size_alloc] at S
 obtain ⟨W0, hW0, S⟩ := S.pack
 have hn4 : zs.length ≤ 4096 := by rw [hl]; exact Nat.mul_le_mul hW.2 hH.2
 have hn1 : 1 ≤ zs.length := by rw [hl]; exact Nat.mul_pos (by omega) (by omega)
 have HBL := Lib.hid (fun u => blank_any u (n := zs.length) hn1 (by omega))
 have HR := Lib.hid hr
 have HL := Lib.hid hl
 have HP0 : Hid (partF max W H r zs 0 = List.replicate zs.length noZ) := Lib.hid pf_0
 have HPN : Hid (∀ k, k < zs.length → (partF max W H r zs k).set k (filtK max W H r zs k) = partF max W H r zs (k + 1)) := Lib.hid fun k hk => pf_next hk
 have HPZ : Hid (∀ k, k < zs.length → isZ zs k = false → partF max W H r zs k = partF max W H r zs (k + 1)) := Lib.hid fun k hk hz => pf_none hk hz
 have HPL : Hid (∀ k, (partF max W H r zs k).length = zs.length) := Lib.hid fun k => pf_length
 have HPE : Hid (partF max W H r zs zs.length = filtL max W H r zs) := Lib.hid pf_end
 obtain ⟨n, hn⟩ : ∃ n, zs.length = n := ⟨_, rfl⟩
 have HN := Lib.hid hn
 rw [hn] at hn4 hn1 HBL HP0 HPN HPZ HPL HPE S hW0 ⊢
 have hnI : (n : Int) ≤ 4096 := by omega
 obtain ⟨hW1, hW2⟩ := hW
 obtain ⟨hH1, hH2⟩ := hH
 clear hr hl hn
 obtain ⟨x0, x1, x2, x3, x4, x5⟩ := S.cc6 1 rfl
 go_enter Tryz.func89, Tryz.ntmps89
 go_wp2_with fail
 refine (HBL.out _).mono ?_
 rintro e W1 ⟨g, rfl, hg, hO, hk⟩
 replace S := S.box (S.below hk) hO hg
 clear hk hO hg hW0 x0 x1 x2 x3 x4 x5
 obtain ⟨x0, x1, x2, x3, x4, x5⟩ := S.cc6 2 rfl
 go_wp2
 go_loopw [22] (fun i wr => ∃ k : Nat, k ≤ n ∧ i = .int .i64 (k : Nat) ∧ St w wr [(g, 3, i64s (partF max W H r zs k)), (w.heap.size + 1, 24, [.int .i64 0, .int .i64 0, .int .i64 0, .int .i64 0, .int .i64 0, .slice none 0 0]), (w.heap.size, 24, grL gx gy st (W : Nat) (H : Nat) A n c)] []) (fun i _ => n - (intOf i).toNat)
 case atStart => exact ⟨0, Nat.zero_le _, rfl, by rw [HP0.out]; exact S⟩
 case round =>
  clear S x0 x1 x2 x3 x4 x5
  obtain ⟨k, hk, rfl, S⟩ := hrel
  by_cases hlt : k < n
  ·have hkI : (k : Int) < (n : Int) := by omega
   have t1 : decide ((k : Int) < (n : Int)) = true := decide_eq_true hkI
   obtain ⟨bz, oz, rfl, z0⟩ := IRow.at (HR.out.below S.k) (j := k) (by rw [HN.out]; exact hlt)
   have x3 := S.c 2 3 rfl rfl
   have x4 := S.c 2 4 rfl rfl
   have x5 := S.c 2 5 rfl rfl
   cases hz : isZ zs k with
   | false =>
    have d0 : (zs.getD k 0 == -2147483648) = true := by unfold isZ at hz; simpa using hz
    have HZ := Lib.hid (HPZ.out k hlt hz)
    clear hz
    generalize zs.getD k 0 = v at *
    go_wp2
    go_roundw
    case rel => exact ⟨k + 1, by omega, by go_num, by rw [← HZ.out]; exact S⟩
    case measure => simp [intOf]; omega
   | true =>
    have d0 : (zs.getD k 0 == -2147483648) = false := by unfold isZ at hz; simpa using hz
    have hFK : foldW max zs (zs.getD k 0) (winL W (k % W - r) (cntW W (k % W) r) (k / W - r) (cntW H (k / W) r)) = filtK max W H r zs k := by rw [filtK, if_pos hz]; rfl
    have hPN := HPN.out k hlt
    rw [← hFK] at hPN
    obtain ⟨hxW, hyH⟩ := div_lt_of (W := W) (H := H) (k := k) (by rw [← HL.out, HN.out]; exact hlt)
    have em : ((k : Int)).tmod (W : Int) = ((k % W : Nat) : Int) := by rw [Int.tmod_eq_emod_of_nonneg (by omega)]; rfl
    have ed : ((k : Int)).tdiv (W : Int) = ((k / W : Nat) : Int) := by rw [Int.tdiv_eq_ediv_of_nonneg (by omega)]; rfl
    have hLk : k < (partF max W H r zs k).length := by rw [HPL.out]; exact hlt
    obtain ⟨x, hx⟩ : ∃ x, k % W = x := ⟨_, rfl⟩
    obtain ⟨y, hy⟩ : ∃ y, k / W = y := ⟨_, rfl⟩
    rw [hx] at em hxW hPN
    rw [hy] at ed hyH hPN
    have hna : x - r + cntW W x r = min (W - 1) (x + r) + 1 := by unfold cntW; omega
    have hnb : y - r + cntW H y r = min (H - 1) (y + r) + 1 := by unfold cntW; omega
    have ea : max 0 ((x : Int) - (r : Int)) = ((x - r : Nat) : Int) := by omega
    have eb : max 0 ((y : Int) - (r : Int)) = ((y - r : Nat) : Int) := by omega
    have eA : min ((W : Int) - 1) ((x : Int) + (r : Int)) = ((min (W - 1) (x + r) : Nat) : Int) := by omega
    have eB : min ((H : Int) - 1) ((y : Int) + (r : Int)) = ((min (H - 1) (y + r) : Nat) : Int) := by omega
    have hmA : min (W - 1) (x + r) < W := by omega
    have hmB : min (H - 1) (y + r) < H := by omega
    obtain ⟨v, hv⟩ : ∃ v, zs.getD k 0 = v := ⟨_, rfl⟩
    rw [hv] at z0 d0 hPN
    have HNX := Lib.hid hPN
    obtain ⟨L0, hL0⟩ : ∃ L, partF max W H r zs k = L := ⟨_, rfl⟩
    rw [hL0] at S hLk HNX
    generalize x - r = a at *
    generalize y - r = b at *
    generalize cntW W x r = na at *
    generalize cntW H y r = nb at *
    generalize min (W - 1) (x + r) = ma at *
    generalize min (H - 1) (y + r) = mb at *
    have hxI : (x : Int) ≤ 63 := by omega
    have hyI : (y : Int) ≤ 63 := by omega
    have hrI : (r : Int) ≤ 8 := by omega
    have hWI : (W : Int) ≤ 64 := by omega
    have hHI : (H : Int) ≤ 64 := by omega
    have hWp : (2 : Int) ≤ (W : Int) := by omega
    have hHp : (2 : Int) ≤ (H : Int) := by omega
    have hwk := S.c 0 k rfl (i64s_at hLk)
    have hfk := S.f 0 k rfl
    clear hz hFK hPN hv hL0 hx hy
    go_upto_region 7 with fail
    replace S := S.putI k v
    obtain ⟨W3, hW3, S⟩ := S.pack
    rw [hW3]
    clear hW3 z0 hwk hfk x3 x4 x5
    have x3 := S.c 2 3 rfl rfl
    have x4 := S.c 2 4 rfl rfl
    have x5 := S.c 2 5 rfl rfl
    go_quiet (fail)
    replace S := S.below (below_drewN (Below.refl _ W3) nq)
    go_wp2
    generalize W3.drewN nq = W4 at *
    have HEA := Lib.hid ea
    clear x3 x4 x5 em ed ea eb
    have x3 := S.c 2 3 rfl rfl
    have x4 := S.c 2 4 rfl rfl
    have x5 := S.c 2 5 rfl rfl
    go_loopw [12] (fun i wr => ∃ yy j : Nat, b + j = yy ∧ j ≤ nb ∧ i = .int .i64 (yy : Nat) ∧ St w wr [(g, 3, i64s (L0.set k (foldW max zs v (winL W a na b j)))), (w.heap.size + 1, 24, [.int .i64 0, .int .i64 0, .int .i64 0, .int .i64 0, .int .i64 0, .slice none 0 0]), (w.heap.size, 24, grL gx gy st (W : Nat) (H : Nat) (some ⟨bz, oz, none⟩) n c)] []) (fun i _ => b + nb - (intOf i).toNat)
    case atStart => exact ⟨b, 0, rfl, Nat.zero_le _, rfl, S⟩
    case round =>
     clear S x3 x4 x5
     obtain ⟨yy, j, hyy, hj, rfl, S⟩ := hrel
     have x3 := S.c 2 3 rfl rfl
     have x4 := S.c 2 4 rfl rfl
     have x5 := S.c 2 5 rfl rfl
     by_cases hjl : j < nb
     ·have hyl : yy ≤ mb := by omega
      have hylI : (yy : Int) ≤ (mb : Int) := by omega
      have t2 : decide ((yy : Int) ≤ (mb : Int)) = true := decide_eq_true hylI
      have hyyH : yy < H := by omega
      have hyyI : (yy : Int) ≤ 63 := by omega
      obtain ⟨s0, hs0⟩ : ∃ s, foldW max zs v (winL W a na b j) = s := ⟨_, rfl⟩
      rw [hs0] at S
      have HSE : Hid (foldW max zs s0 (winR W yy a na) = foldW max zs v (winL W a na b (j + 1))) := Lib.hid (by rw [← hs0, ← foldW_append, winL_next, hyy])
      have ea := HEA.out
      clear hs0
      go_wp2
      clear ea
      go_loopw [13] (fun i wr => ∃ xx i' : Nat, a + i' = xx ∧ i' ≤ na ∧ i = .int .i64 (xx : Nat) ∧ St w wr [(g, 3, i64s (L0.set k (foldW max zs s0 (winR W yy a i')))), (w.heap.size + 1, 24, [.int .i64 0, .int .i64 0, .int .i64 0, .int .i64 0, .int .i64 0, .slice none 0 0]), (w.heap.size, 24, grL gx gy st (W : Nat) (H : Nat) (some ⟨bz, oz, none⟩) n c)] []) (fun i _ => a + na - (intOf i).toNat)
      case atStart => exact ⟨a, 0, rfl, Nat.zero_le _, rfl, S⟩
      case round =>
       clear S x3 x4 x5
       obtain ⟨xx, i, hxx, hi, rfl, S⟩ := hrel
       have x3 := S.c 2 3 rfl rfl
       have x4 := S.c 2 4 rfl rfl
       have x5 := S.c 2 5 rfl rfl
       by_cases hil : i < na
       ·have hxl : xx ≤ ma := by omega
        have hxlI : (xx : Int) ≤ (ma : Int) := by omega
        have t3 : decide ((xx : Int) ≤ (ma : Int)) = true := decide_eq_true hxlI
        have hxxI : (xx : Int) ≤ 63 := by omega
        have hmn : yy * W + xx < W * H := idx_lt (by omega) hyyH
        rw [← HL.out, HN.out] at hmn
        obtain ⟨bz', oz', e0, z1⟩ := IRow.at (HR.out.below S.k) (j := yy * W + xx) (by rw [HN.out]; exact hmn)
        cases e0
        obtain ⟨s, hs⟩ : ∃ s, foldW max zs s0 (winR W yy a i) = s := ⟨_, rfl⟩
        rw [hs] at S
        have hnx : foldW max zs s0 (winR W yy a (i + 1)) = stepW max zs s (yy * W + xx) := by rw [winR_next, foldW_append, hs, hxx]; rfl
        have hq : (yy : Int) * (W : Int) = ((yy * W : Nat) : Int) := by simp
        have hyW : yy * W ≤ 63 * 64 := Nat.mul_le_mul (by omega) hW2
        obtain ⟨p, hp⟩ : ∃ p, yy * W = p := ⟨_, rfl⟩
        rw [hp] at hq hyW hmn z1 hnx
        have hpI : (p : Int) ≤ 4032 := by omega
        have hmI : (p : Int) + (xx : Int) < (n : Int) := by omega
        cases hzm : isZ zs (p + xx) with
        | false =>
         have d1 : (zs.getD (p + xx) 0 != -2147483648) = false := hzm
         have hst : stepW max zs s (p + xx) = s := by unfold stepW; rw [if_neg (by simp [hzm])]
         rw [hst] at hnx
         have HNS := Lib.hid hnx
         generalize zs.getD (p + xx) 0 = v1 at *
         clear hzm hst hnx hs hp
         go_wp2
         go_roundw
         case rel => exact ⟨xx + 1, i + 1, by omega, by omega, by go_num, by rw [HNS.out]; exact S⟩
         case measure => simp [intOf]; omega
        | true =>
         have d1 : (zs.getD (p + xx) 0 != -2147483648) = true := hzm
         have hst : stepW max zs s (p + xx) = max s (zs.getD (p + xx) 0) := by unfold stepW; rw [if_pos hzm]
         rw [hst] at hnx
         have HNS := Lib.hid hnx
         generalize zs.getD (p + xx) 0 = v1 at *
         have hLk2 : k < (L0.set k s).length := by rw [List.length_set]; exact hLk
         have hwk : wr.cell? ⟨g, k, none⟩ = some (.int .i64 s) := S.c 0 k rfl (by rw [i64s_at hLk2]; simp [List.getD, hLk])
         have HF := Lib.hid (fun u => greatest_any u s v1)
         clear hzm hst hnx hs hp
         go_wp2_with fail
         refine (HF.out _).mono ?_
         rintro e W5 ⟨rfl, hk5⟩
         clear hwk x3 x4 x5 z1
         replace S := S.below hk5
         have hwk := S.c 0 k rfl (i64s_at hLk2)
         have hfk := S.f 0 k rfl
         clear hk5
         have S2 := S.putI k (max s v1)
         rw [List.set_set] at S2
         go_wp2
         go_roundw
         case rel => exact ⟨xx + 1, i + 1, by omega, by omega, by go_num, by rw [HNS.out]; exact S2⟩
         case measure => simp [intOf]; omega
       ·have hxl : ¬ xx ≤ ma := by omega
        have hxlI : ¬ (xx : Int) ≤ (ma : Int) := by omega
        have t3 : decide ((xx : Int) ≤ (ma : Int)) = false := decide_eq_false hxlI
        obtain rfl : i = na := by omega
        rw [HSE.out] at S
        go_wp2
        go_roundw
        case rel => exact ⟨yy + 1, j + 1, by omega, by omega, by go_num, S⟩
        case measure => simp [intOf]; omega
     ·have hyl : ¬ yy ≤ mb := by omega
      have hylI : ¬ (yy : Int) ≤ (mb : Int) := by omega
      have t2 : decide ((yy : Int) ≤ (mb : Int)) = false := decide_eq_false hylI
      obtain rfl : j = nb := by omega
      rw [HNX.out] at S
      go_wp2
      go_roundw
      case rel => exact ⟨k + 1, by omega, by go_num, S⟩
      case measure => simp [intOf]; omega
  ·have hkI : ¬ (k : Int) < (n : Int) := by omega
   have t1 : decide ((k : Int) < (n : Int)) = false := decide_eq_false hkI
   obtain ⟨x0, x1, x2, x3, x4, x5⟩ := S.cc6 2 rfl
   obtain rfl : k = n := by omega
   rw [HPE.out] at S
   obtain ⟨y0, y1, y2, y3, y4, y5⟩ := S.cc6 1 rfl
   obtain ⟨f0, f1, f2, f3, f4, f5⟩ := S.ff6 1 rfl
   go_wp2_with fail
   refine (with_any (w := wr) gx gy st (W : Nat) (H : Nat) A (some ⟨g, 0, none⟩) k c k k).mono ?_
   rintro e W5 ⟨rfl, hk5⟩
   clear x0 x1 x2 x3 x4 x5 y0 y1 y2 y3 y4 y5 f0 f1 f2 f3 f4 f5
   replace S := S.below hk5
   clear hk5
   obtain ⟨f0, f1, f2, f3, f4, f5⟩ := S.ff6 1 rfl
   obtain ⟨y0, y1, y2, y3, y4, y5⟩ := S.cc6 1 rfl
   have S2 := S.put6 1 rfl rfl rfl (x0 := .int .i64 gx) (x1 := .int .i64 gy) (x2 := .int .i64 st) (x3 := .int .i64 (W : Nat)) (x4 := .int .i64 (H : Nat)) (x5 := .slice (some ⟨g, 0, none⟩) k k)
   go_wp2
   refine bodyPost_ret (v := .agg #[.int .i64 gx, .int .i64 gy, .int .i64 st, .int .i64 (W : Nat), .int .i64 (H : Nat), .slice (some ⟨g, 0, none⟩) k k]) (by simp [results, Tryz.results89, go_sem, S2.c 1 0 rfl rfl, S2.c 1 1 rfl rfl, S2.c 1 2 rfl rfl, S2.c 1 3 rfl rfl, S2.c 1 4 rfl rfl, S2.c 1 5 rfl rfl]) rfl ?_
   have hO9 := S2.o (p := (g, 3, i64s (filtL max W H r zs))) 0 rfl
   exact ⟨g, rfl, S2.lo (g, 3, i64s (filtL max W H r zs)) List.mem_cons_self, hO9, S2.k⟩
section
variable {w : World} {A : Option Addr} {c : Nat} {zs : List Int}
set_option maxRecDepth 100000 in
set_option maxHeartbeats 1000000 in
theorem opened_any (hr : IRow w A zs) (gx gy st : Int) (W H r : Nat) (hW : 2 ≤ W ∧ W ≤ 64) (hH : 2 ≤ H ∧ H ≤ 64) (hrr : r ≤ 8) (hl : zs.length = W * H) :
 Calls Tryz.prog 55 #[grV gx gy st (W : Nat) (H : Nat) A zs.length c, .int .i64 (r : Nat)] w fun e w' => ∃ g, e = .returned (grV gx gy st (W : Nat) (H : Nat) (some ⟨g, 0, none⟩) zs.length zs.length) ∧ w.heap.size ≤ g ∧ Own w' g 3 (i64s (openL W H r zs)) ∧ Keeps w w' := by
 have S := ((St.start w).alloc 24 (grL gx gy st (W : Nat) (H : Nat) A zs.length c)).alloc 24 [.int .i64 0, .int .i64 0, .int .i64 0, .int .i64 0, .int .i64 0, .slice none 0 0]
 simp only [World.size_alloc] at S
 obtain ⟨W0, hW0, S⟩ := S.pack
 have H1 := Lib.hid (filtered_min (c := c) (hr.below S.k) gx gy st W H r hW hH hrr hl)
 have H2 := Lib.hid (fun (u : World) (B : Nat) (h : Own u B 3 (i64s (filtL min W H r zs))) => filtered_max (c := zs.length) (own_irow h) gx gy st W H r hW hH hrr (by rw [filtL_length]; exact hl))
 have HE : Hid (filtL max W H r (filtL min W H r zs) = openL W H r zs) := Lib.hid rfl
 simp only [filtL_length] at H2
 rw [HE.out] at H2
 generalize filtL min W H r zs = es at *
 generalize openL W H r zs = os at *
 generalize zs.length = n at *
 clear hr hW hH hrr hl HE
 obtain ⟨x0, x1, x2, x3, x4, x5⟩ := S.cc6 1 rfl
 go_enter Tryz.func55, Tryz.ntmps55
 go_wp2_with fail
 refine H1.out.mono ?_
 rintro e W1 ⟨g, rfl, hg, hO, hk⟩
 replace S := S.below hk
 clear x0 x1 x2 x3 x4 x5 hW0
 have HG := Lib.hid hg
 have hk1 := S.k
 clear hk hg H1
 go_wp2_with fail
 refine (H2.out _ _ hO).mono ?_
 rintro e W2 ⟨g2, rfl, hg2, hO2, hk2⟩
 replace S := S.box (S.below hk2) hO2 hg2
 clear hk2 hO2 hg2 hk1 hO H2 HG
 obtain ⟨y0, y1, y2, y3, y4, y5⟩ := S.cc6 1 rfl
 obtain ⟨f0, f1, f2, f3, f4, f5⟩ := S.ff6 1 rfl
 have S2 := S.put6 1 rfl rfl rfl (x0 := .int .i64 gx) (x1 := .int .i64 gy) (x2 := .int .i64 st) (x3 := .int .i64 (W : Nat)) (x4 := .int .i64 (H : Nat)) (x5 := .slice (some ⟨g2, 0, none⟩) n n)
 go_wp2
 refine bodyPost_ret (v := .agg #[.int .i64 gx, .int .i64 gy, .int .i64 st, .int .i64 (W : Nat), .int .i64 (H : Nat), .slice (some ⟨g2, 0, none⟩) n n]) (by simp [results, Tryz.results55, go_sem, S2.c 1 0 rfl rfl, S2.c 1 1 rfl rfl, S2.c 1 2 rfl rfl, S2.c 1 3 rfl rfl, S2.c 1 4 rfl rfl, S2.c 1 5 rfl rfl]) rfl ?_
 have hO9 := S2.o (p := (g2, 3, i64s os)) 0 rfl
 exact ⟨g2, rfl, S2.lo (g2, 3, i64s os) List.mem_cons_self, hO9, S2.k⟩
set_option maxRecDepth 100000 in
set_option maxHeartbeats 1000000 in
theorem gchecked_any (hr : IRow w A zs) (gx gy st : Int) (W H r : Nat) (hc : chkG gx gy st (W : Nat) (H : Nat) zs = 0) (hl : zs.length ≤ maxLen) (hrr : r ≤ 8) :
 Calls Tryz.prog 54 #[grV gx gy st (W : Nat) (H : Nat) A zs.length c, .int .i64 (r : Nat)] w fun e w' => e = .returned (.int .i64 0) ∧ Keeps w w' := by
 have S := (St.start w).alloc 24 (grL gx gy st (W : Nat) (H : Nat) A zs.length c)
 obtain ⟨W0, hW0, S⟩ := S.pack
 have HK := Lib.hid (tcheck_any (c := c) (hr.below S.k) gx gy st (W : Nat) (H : Nat) hl)
 rw [hc] at HK
 obtain ⟨x0, x1, x2, x3, x4, x5⟩ := S.cc6 0 rfl
 have d1 : decide ((r : Int) < 0) = false := decide_eq_false (by omega)
 have d2 : decide ((8 : Int) < (r : Int)) = false := decide_eq_false (by omega)
 have hrI : (r : Int) ≤ 8 := by omega
 clear hr hc hl
 go_enter Tryz.func54, Tryz.ntmps54
 go_wp2_with fail
 refine HK.out.mono ?_
 rintro e w1 ⟨rfl, hk⟩
 go_wp2
 all_goals (go_ret; exact ⟨rfl, S.k.trans' hk⟩)
set_option maxRecDepth 100000 in
set_option maxHeartbeats 1000000 in
theorem open_any (hr : IRow w A zs) (gx gy st : Int) (W H r : Nat) (hc : chkG gx gy st (W : Nat) (H : Nat) zs = 0) (hl : zs.length ≤ maxLen) (hrr : r ≤ 8) :
 Calls Tryz.prog 22 #[grV gx gy st (W : Nat) (H : Nat) A zs.length c, .int .i64 (r : Nat)] w fun e w' => ∃ g, e = .returned (.tuple #[grV gx gy st (W : Nat) (H : Nat) (some ⟨g, 0, none⟩) zs.length zs.length, .int .i64 0]) ∧ w.heap.size ≤ g ∧ Own w' g 3 (i64s (openL W H r zs)) ∧ Keeps w w' := by
 obtain ⟨hW, hH, -, hlN, -, -, -⟩ := chkG_ok hc
 have hlN : zs.length = W * H := by exact_mod_cast hlN
 have S := ((St.start w).alloc 24 (grL gx gy st (W : Nat) (H : Nat) A zs.length c)).alloc 24 [.int .i64 0, .int .i64 0, .int .i64 0, .int .i64 0, .int .i64 0, .slice none 0 0]
 simp only [World.size_alloc] at S
 obtain ⟨W0, hW0, S⟩ := S.pack
 have H1 := Lib.hid (gchecked_any (c := c) (hr.below S.k) gx gy st W H r hc hl hrr)
 have H2 := Lib.hid (fun (u : World) (hk : Keeps w u) => opened_any (c := c) (hr.below hk) gx gy st W H r (by omega) (by omega) hrr hlN)
 generalize openL W H r zs = os at *
 generalize zs.length = n at *
 clear hr hW hH hrr hl hlN hc
 obtain ⟨x0, x1, x2, x3, x4, x5⟩ := S.cc6 1 rfl
 go_enter Tryz.func22, Tryz.ntmps22
 go_wp2_with fail
 refine H1.out.mono ?_
 rintro e W1 ⟨rfl, hk⟩
 replace S := S.below hk
 clear hk hW0 x0 x1 x2 x3 x4 x5
 obtain ⟨x0, x1, x2, x3, x4, x5⟩ := S.cc6 1 rfl
 go_wp2_with fail
 refine (H2.out _ S.k).mono ?_
 rintro e W2 ⟨g2, rfl, hg2, hO2, hk2⟩
 replace S := S.box (S.below hk2) hO2 hg2
 clear hk2 hO2 hg2 H1 H2 x0 x1 x2 x3 x4 x5
 obtain ⟨y0, y1, y2, y3, y4, y5⟩ := S.cc6 1 rfl
 obtain ⟨f0, f1, f2, f3, f4, f5⟩ := S.ff6 1 rfl
 have S2 := S.put6 1 rfl rfl rfl (x0 := .int .i64 gx) (x1 := .int .i64 gy) (x2 := .int .i64 st) (x3 := .int .i64 (W : Nat)) (x4 := .int .i64 (H : Nat)) (x5 := .slice (some ⟨g2, 0, none⟩) n n)
 go_wp2
 refine bodyPost_ret (v := .tuple #[.agg #[.int .i64 gx, .int .i64 gy, .int .i64 st, .int .i64 (W : Nat), .int .i64 (H : Nat), .slice (some ⟨g2, 0, none⟩) n n], .int .i64 0]) (by simp [results, Tryz.results22, go_sem, S2.c 1 0 rfl rfl, S2.c 1 1 rfl rfl, S2.c 1 2 rfl rfl, S2.c 1 3 rfl rfl, S2.c 1 4 rfl rfl, S2.c 1 5 rfl rfl]) rfl ?_
 have hO9 := S2.o (p := (g2, 3, i64s os)) 0 rfl
 exact ⟨g2, rfl, S2.lo (g2, 3, i64s os) List.mem_cons_self, hO9, S2.k⟩
end
end Go.Proofs.YtecibfncnaccjaaGreat
