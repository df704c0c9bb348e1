/- The walks of cmp.Compare and compare. The walks of times and short. The walks of sum, Add, Sub, Mul, Compare, Of. More on memory: rows of the call's own. No program in sight. -/
import Derived.Test.YtgcigdahjabimaaGreatDoorPr2
import Derived.Deep.RegionWith
import Derived.Test.YtgcigdahjabimaaGreatDoorPr1
namespace Go.Proofs.YtgcigdahjabimaaGreatDoor
open Go.RowKit Go.Shelf
attribute [local go_sem] Oper.semAt_some

theorem sub_sign (x y : Int) : (x < y ∧ (x - y).sign = -1) ∨ (x = y ∧ (x - y).sign = 0) ∨ (y < x ∧ (x - y).sign = 1) := by
 rcases Int.lt_trichotomy x y with h | h | h
 ·exact .inl ⟨h, Int.sign_eq_neg_one_of_neg (by omega)⟩
 ·exact .inr (.inl ⟨h, by subst h; simp⟩)
 ·exact .inr (.inr ⟨h, Int.sign_eq_one_of_pos (by omega)⟩)

theorem nan_int (x : Int) (w : World) : Calls Tryz.prog 166 #[.int .i64 x] w fun e w' => e = .returned (.bool false) ∧ w = w' := by
 have h : (x != x) = false := by simp
 go_enter Tryz.func166, Tryz.ntmps166
 go_wp2
 go_ret
 exact ⟨rfl, rfl⟩
theorem nan_u32 (x : Int) (w : World) : Calls Tryz.prog 195 #[.int .u32 x] w fun e w' => e = .returned (.bool false) ∧ w = w' := by
 have h : (x != x) = false := by simp
 go_enter Tryz.func195, Tryz.ntmps195
 go_wp2
 go_ret
 exact ⟨rfl, rfl⟩
set_option maxHeartbeats 400000 in
theorem cmp_int (x y : Int) (w : World) : Calls Tryz.prog 128 #[.int .i64 x, .int .i64 y] w fun e w' => e = .returned (.int .i64 (x - y).sign) ∧ w = w' := by
 rcases sub_sign x y with ⟨h, hs⟩ | ⟨h, hs⟩ | ⟨h, hs⟩
 ·have HS := Lib.hid hs
  clear hs
  have h1 : decide (x < y) = true := decide_eq_true h
  go_enter Tryz.func128, Tryz.ntmps128
  go_wp2_with fail
  refine (nan_int x _).mono ?_
  rintro e w1 ⟨rfl, rfl⟩
  go_wp2_with fail
  refine (nan_int y _).mono ?_
  rintro e w1 ⟨rfl, rfl⟩
  go_wp2
  go_ret
  exact ⟨ret_int HS.out, rfl⟩
 ·have HS := Lib.hid hs
  clear hs
  subst h
  have h1 : decide (x < x) = false := by simp
  go_enter Tryz.func128, Tryz.ntmps128
  go_wp2_with fail
  refine (nan_int x _).mono ?_
  rintro e w1 ⟨rfl, rfl⟩
  go_wp2_with fail
  refine (nan_int x _).mono ?_
  rintro e w1 ⟨rfl, rfl⟩
  go_wp2
  go_ret
  exact ⟨ret_int HS.out, rfl⟩
 ·have HS := Lib.hid hs
  clear hs
  have h1 : decide (x < y) = false := by simp; omega
  have h2 : decide (y < x) = true := decide_eq_true h
  go_enter Tryz.func128, Tryz.ntmps128
  go_wp2_with fail
  refine (nan_int x _).mono ?_
  rintro e w1 ⟨rfl, rfl⟩
  go_wp2_with fail
  refine (nan_int y _).mono ?_
  rintro e w1 ⟨rfl, rfl⟩
  go_wp2
  go_ret
  exact ⟨ret_int HS.out, rfl⟩
set_option maxHeartbeats 400000 in
theorem cmp_u32 (x y : Int) (w : World) : Calls Tryz.prog 168 #[.int .u32 x, .int .u32 y] w fun e w' => e = .returned (.int .i64 (x - y).sign) ∧ w = w' := by
 rcases sub_sign x y with ⟨h, hs⟩ | ⟨h, hs⟩ | ⟨h, hs⟩
 ·have HS := Lib.hid hs
  clear hs
  have h1 : decide (x < y) = true := decide_eq_true h
  go_enter Tryz.func168, Tryz.ntmps168
  go_wp2_with fail
  refine (nan_u32 x _).mono ?_
  rintro e w1 ⟨rfl, rfl⟩
  go_wp2_with fail
  refine (nan_u32 y _).mono ?_
  rintro e w1 ⟨rfl, rfl⟩
  go_wp2
  go_ret
  exact ⟨ret_int HS.out, rfl⟩
 ·have HS := Lib.hid hs
  clear hs
  subst h
  have h1 : decide (x < x) = false := by simp
  go_enter Tryz.func168, Tryz.ntmps168
  go_wp2_with fail
  refine (nan_u32 x _).mono ?_
  rintro e w1 ⟨rfl, rfl⟩
  go_wp2_with fail
  refine (nan_u32 x _).mono ?_
  rintro e w1 ⟨rfl, rfl⟩
  go_wp2
  go_ret
  exact ⟨ret_int HS.out, rfl⟩
 ·have HS := Lib.hid hs
  clear hs
  have h1 : decide (x < y) = false := by simp; omega
  have h2 : decide (y < x) = true := decide_eq_true h
  go_enter Tryz.func168, Tryz.ntmps168
  go_wp2_with fail
  refine (nan_u32 x _).mono ?_
  rintro e w1 ⟨rfl, rfl⟩
  go_wp2_with fail
  refine (nan_u32 y _).mono ?_
  rintro e w1 ⟨rfl, rfl⟩
  go_wp2
  go_ret
  exact ⟨ret_int HS.out, rfl⟩

set_option maxRecDepth 100000 in
set_option maxHeartbeats 400000 in
theorem compare_len (A D : Option Addr) (n m c d : Nat) (w : World) (hne : n ≠ m) (_hn : n ≤ 1000000000) (_hm : m ≤ 1000000000) :
 Calls Tryz.prog 129 #[.slice A n c, .slice D m d] w fun e w' => e = .returned (.int .i64 ((n : Int) - m).sign) ∧ Keeps w w' := by
 have h1 : ((n : Int) != m) = true := by rw [bne_iff_ne]; omega
 have hR := own2 w (.cells #[.slice D m d] 27) 3 [.int .i64 0]
 have r0 := hR.c0
 have f0 := hR.frozen 0
 go_enter Tryz.func129, Tryz.ntmps129
 go_wp2_with fail
 refine (cmp_int n m _).mono ?_
 rintro e w1 ⟨rfl, rfl⟩
 go_wp2
 refine bodyPost_ret (v := .int .i64 ((n : Int) - m).sign) (by simp [results, Tryz.results129, go_sem]) rfl ?_
 exact ⟨rfl, keep2 _ _ _⟩

set_option maxRecDepth 100000 in
set_option maxHeartbeats 1000000 in
theorem compare_in (A D : Option Addr) (n c d : Nat) (a b : Nat) (w : World) (e : (dig a).length = n) (e' : (dig b).length = n) (h : Row w A n (u32 (dig a))) (h' : Row w D n (u32 (dig b))) (hn : n ≤ 1000000000) :
 Calls Tryz.prog 129 #[.slice A n c, .slice D n d] w fun e w' => e = .returned (.int .i64 ((a : Int) - b).sign) ∧ Keeps w w' := by
 have h1 : ((n : Int) != n) = false := by simp
 refine (callsIn_wide (n := 4)).1 ?_
 have hlt : ∀ b o, A = some ⟨b, o, none⟩ → 0 < n → b < w.heap.size := fun b o e hp => h.lt e hp
 refine callsIn_of_wp_marks Tryz.func129 rfl trivial ?_ rfl
 simp only [Tryz.ntmps129, List.size_toArray, List.length_cons, List.length_nil, Nat.reduceAdd, Nat.reduceSub, Array.replicate_succ, Array.replicate_zero, List.push_toArray, List.append_toArray, List.nil_append, List.cons_append]
 gi_wp2_with (refine ⟨trivial, ?_⟩; refine (callsIn_wide.2 (back_any A n c _)).mono ?_; rintro e w' ⟨rfl, rfl⟩)
 have hB := ((Own.new w 27 [.slice D n d]).alloc (.cells #[.int .i64 0] 3)).alloc (.cells #[.slice A n c] 27)
 have hR := (own2 w (.cells #[.slice D n d] 27) 3 [.int .i64 0]).alloc (.cells #[.slice A n c] 27)
 have hS := own2 (w.alloc (.cells #[.slice D n d] 27)) (.cells #[.int .i64 0] 3) 27 [.slice A n c]
 rw [World.size_alloc] at hS
 have hK := (keep2 w (.cells #[.slice D n d] 27) (.cells #[.int .i64 0] 3)).alloc (by simp; omega) (.cells #[.slice A n c] 27)
 have HE := Lib.hid e
 have HE' := Lib.hid e'
 clear e e'
 apply wpIn_range_idx (N := n) rfl (by omega) (gf := 194) (lb := #[.pointer (some ⟨w.heap.size + 1 + 1, 0, none⟩)]) rfl trivial (enters_of Tryz.func194 (by kernel_rfl) rfl)
  (back_seq Fence.wide _ trivial rfl (by omega) (w.heap.size + 1 + 1) w.heap.size n c A (dig a) (by omega) _ hS (h.below hK) hlt) BackKp.t (BackKp.b (by simp; omega) (by simp)) bl (fun _ => rfl)
  (fun k W => (dig a).drop (n - k) = (dig b).drop (n - k) ∧ Own W w.heap.size 27 [.slice D n d] ∧ Own W (w.heap.size + 1) 3 [.int .i64 0] ∧ Own W (w.heap.size + 1 + 1) 27 [.slice A n c] ∧ Keeps w W)
  (fun c k W => c = .ret ∧ Own W (w.heap.size + 1) 3 [.int .i64 ((a : Int) - b).sign] ∧ Keeps w W)
  (fun k A B row hs hg hr => ⟨hs.1, hs.2.1.nc hg (fun r e => (hr r e).2), hs.2.2.1.nc hg (fun r e => (hr r e).2), hs.2.2.2.1.nc hg (fun r e => (hr r e).2), ownFrom_below (β := Nat) (Nat.le_refl _) (by simp; omega) k A B row hs.2.2.2.2 hg hr⟩)
  (fun c k A B row hs hg hr => ⟨hs.1, hs.2.1.nc hg (fun r e => (hr r e).2), ownFrom_below (β := Nat) (Nat.le_refl _) (by simp; omega) k A B row hs.2.2 hg hr⟩)
  ⟨by rw [List.drop_of_length_le (by rw [HE.out]; omega), List.drop_of_length_le (by rw [HE'.out]; omega)], hB, hR, hS, hK⟩
 case hassign =>
  intro l x W K hK
  unfold backEnc
  gi_wp2
  exact hK
 case hbody =>
  rintro l k W ⟨hd, h2, h3, h4, h5⟩ hk
  obtain ⟨q, hq⟩ : ∃ q, n - 1 - k = q := ⟨_, rfl⟩
  rw [hq]
  rw [show n - k = q + 1 by omega] at hd
  have HD := Lib.hid hd
  have hqn : q < n := by omega
  have HQ := Lib.hid hq
  clear hd hq
  obtain ⟨bb, oo, rfl, hbb, hcell⟩ := (h'.below h5) (by omega)
  have hx : W.cell? ⟨bb, oo + q, none⟩ = some (.int .u32 (ix (dig b) q : Nat)) := hcell q hqn
  clear hcell
  have c2 := h2.c0
  have c3 := h3.c0
  have f3 := h3.frozen 0
  by_cases hne : ix (dig a) q = ix (dig b) q
  ·have HN := Lib.hid hne
   have hbn : (((ix (dig a) q : Nat) : Int) != ((ix (dig b) q : Nat) : Int)) = false := by simp [hne]
   clear hne
   gi_wp2
   refine ⟨KeepsFrom.refl _ _, ⟨Below.refl _ _, rfl⟩, ?_, h2, h3, h4, h5⟩
   rw [show n - (k + 1) = q by have := HQ.out; omega, drop_cons (dig a) q (by rw [HE.out]; exact hqn), drop_cons (dig b) q (by rw [HE'.out]; exact hqn), HN.out, HD.out]
  ·have hs := dig_cmp_at a b q (HE.out.trans HE'.out.symm) (by rw [HE.out]; exact hqn) HD.out hne
   have hbn : (((ix (dig a) q : Nat) : Int) != ((ix (dig b) q : Nat) : Int)) = true := by rw [bne_iff_ne]; omega
   have HS := Lib.hid hs
   clear hne hs
   gi_wp2_with (refine ⟨trivial, ?_⟩; refine (CallsIn.inRound l (callsIn_wide.2 (cmp_u32 _ _ _))).mono ?_; rintro e w' ⟨rfl, rfl⟩)
   refine ⟨(KeepsOthers.setCell _ _ _).from _, rfl, ?_, h5.set (by simp) _⟩
   rw [HS.out]
   exact h3.set 0 _
 case hdone =>
  rintro D W hD ⟨hd, h2, h3, h4, h5⟩ hDf
  have c3 := h3.c0
  have f3 := h3.frozen 0
  rw [Nat.sub_self, List.drop_zero, List.drop_zero] at hd
  have he := dig_inj hd
  clear hd
  gi_wp2
  have h3' := h3.set 0 (.int .i64 0)
  have hDf' : (W.setCell ⟨w.heap.size + 1, 0, none⟩ (.int .i64 0)).heap[D]? = some (.deferred (some [])) := (Below.heap_setCell _ _ _ _ (by simp at hD; simp; omega)).trans hDf
  refine ⟨by simp, .inl ⟨_, _, rfl, run_takeDeferred hDf', ?_⟩⟩
  have h3n := h3'.nc (grownBy_putObj' _ D (.deferred none)) (fun r e => by cases e; exact ⟨_, hDf', rfl⟩)
  refine ⟨.int .i64 0, by simp [results, Tryz.results129, go_sem, h3n.c0], ?_, (h5.set (by simp) _).trans (belowK_b (w := w) (Nat.le_refl _) _ D _ _ (by simp at hD; omega) hDf' rfl rfl)⟩
  subst he
  simp
 case hstop =>
  rintro D c k W hD _ ⟨rfl, h3, h5⟩ hDf
  gi_wp2
  refine ⟨by simp, .inl ⟨_, _, rfl, run_takeDeferred hDf, ?_⟩⟩
  have h3n := h3.nc (grownBy_putObj' _ D (.deferred none)) (fun r e => by cases e; exact ⟨_, hDf, rfl⟩)
  exact ⟨.int .i64 ((a : Int) - b).sign, by simp [results, Tryz.results129, go_sem, h3n.c0], rfl, h5.trans (belowK_b (w := w) (Nat.le_refl _) W D _ _ (by simp at hD; omega) hDf rfl rfl)⟩

theorem compare_any (v1 v2 : Value) (a b : Nat) (w : World) (h1 : U32 w v1 (dig a)) (h2 : U32 w v2 (dig b)) (hm1 : (dig a).length ≤ 1000000000) (hm2 : (dig b).length ≤ 1000000000) :
 Calls Tryz.prog 129 #[v1, v2] w fun e w' => e = .returned (.int .i64 ((a : Int) - b).sign) ∧ Keeps w w' := by
 obtain ⟨A, n, c, rfl, e1, -, -, -, r1⟩ := h1.open_
 obtain ⟨D, m, d, rfl, e2, -, -, -, r2⟩ := h2.open_
 by_cases hl : n = m
 ·subst hl
  exact compare_in A D n c d a b w e1 e2 r1 r2 (by omega)
 ·refine (compare_len A D n m c d w hl (by omega) (by omega)).mono ?_
  rintro e w' ⟨rfl, hk⟩
  refine ⟨ret_int ?_, hk⟩
  rcases Nat.lt_or_gt_of_ne hl with h | h
  ·have := dig_lt_of_length (a := a) (b := b) (by omega)
   rw [Int.sign_eq_neg_one_of_neg (by omega), Int.sign_eq_neg_one_of_neg (by omega)]
  ·have := dig_lt_of_length (a := b) (b := a) (by omega)
   rw [Int.sign_eq_one_of_pos (by omega), Int.sign_eq_one_of_pos (by omega)]
theorem cast_div (o p q c : Nat) : ((o : Int) + p * q + c) / 1000000000 = (((o + p * q + c) / 1000000000 : Nat) : Int) := by
 have : ((p * q : Nat) : Int) = (p : Int) * q := Int.natCast_mul _ _
 omega
theorem cast_mod (o p q c : Nat) : ((o : Int) + p * q + c) % 1000000000 = (((o + p * q + c) % 1000000000 : Nat) : Int) := by
 have : ((p * q : Nat) : Int) = (p : Int) * q := Int.natCast_mul _ _
 omega
set_option maxRecDepth 100000 in
set_option maxHeartbeats 1000000 in
theorem times_core (A D : Option Addr) (n1 n2 c1 c2 : Nat) (xs ys : List Nat) (w : World) (e1 : xs.length = n1) (e2 : ys.length = n2) (h1 : Row w A n1 (u32 xs)) (h2 : Row w D n2 (u32 ys))
 (ha : AllB xs) (hb : AllB ys) (hm1 : n1 ≤ 1000000) (hm2 : n2 ≤ 1000000) :
 Calls Tryz.prog 137 #[.slice A n1 c1, .slice D n2 c2] w fun e w' => ∃ v, e = .returned v ∧ w'.ownsRow w.heap.size 109 1 v (dig (val xs * val ys)).length (u32s (dig (val xs * val ys))) ∧ Keeps w w' := by
 obtain ⟨N, hN⟩ : ∃ N, N = n1 + n2 := ⟨_, rfl⟩
 have hN1 : N ≤ 4000000 := by omega
 have hmk := make_u32 ((n1 : Int) + n2) N (by omega) hN1
 have HE1 := Lib.hid e1
 have HE2 := Lib.hid e2
 have HN := Lib.hid hN
 clear e1 e2 hN
 go_enter Tryz.func137, Tryz.ntmps137
 go_wp2
 have hown := Own.new w 109 (u32s (List.replicate N 0))
 have hk : Keeps w (w.alloc (.cells (u32s (List.replicate N 0)).toArray 109)) := bl.alloc (Nat.le_refl _) _
 go_loopw [20] (fun i wr => ∃ (k : Nat) (out : List Nat), k ≤ n1 ∧ i = .int .i64 (k : Nat) ∧ out.length = N ∧ AllB out ∧
  val out = val (xs.take k) * val ys ∧ (∀ j, k + n2 ≤ j → ix out j = 0) ∧ Own wr w.heap.size 109 (u32s out) ∧ Keeps w wr)
  (fun i _ => n1 - (intOf i).toNat)
 case atStart => exact ⟨0, List.replicate N 0, by omega, rfl, by simp, AllB.replicate N, by simp [val, val_replicate], fun j _ => by simp [ix, List.getElem?_replicate]; split <;> rfl, hown, hk⟩
 case round =>
  obtain ⟨k, out, hkN, rfl, hol, hob, hval, hz, hown1, hk1⟩ := hrel
  obtain ⟨wo, rfl⟩ : ∃ wo : World, wo = wr := ⟨_, rfl⟩
  have HV := Lib.hid hval
  have HL := Lib.hid hol
  have HZ := Lib.hid hz
  clear hval hol hz
  by_cases hlt : k < n1
  ·obtain ⟨b, o, rfl, hbl, hcell⟩ := (h1.below hk1) (by omega)
   have hxc : wo.cell? ⟨b, o + k, none⟩ = some (.int .u32 (ix xs k : Nat)) := hcell k hlt
   clear hcell
   go_wp2
   go_loopw [8, 27] (fun c i wi => ∃ (j cc : Nat) (out' : List Nat), j ≤ n2 ∧ i = .int .i64 (j : Nat) ∧ c = .int .u64 (cc : Nat) ∧ cc < 1000000000 ∧ out'.length = N ∧ AllB out' ∧
    val out' + cc * 1000000000 ^ (k + j) = val (xs.take k) * val ys + ix xs k * val (ys.take j) * 1000000000 ^ k ∧ (∀ j, k + n2 ≤ j → ix out' j = 0) ∧ Own wi w.heap.size 109 (u32s out') ∧ Keeps w wi)
    (fun _ i _ => n2 - (intOf i).toNat)
   case atStart => exact ⟨0, 0, out, by omega, rfl, rfl, by omega, HL.out, hob, by rw [HV.out]; simp [val], HZ.out, hown1, hk1⟩
   case round =>
    obtain ⟨j, cc, out', hj, rfl, rfl, hcc, hol', hob', hval', hz', hown2, hk2⟩ := hrel
    have HV' := Lib.hid hval'
    have HL' := Lib.hid hol'
    have HZ' := Lib.hid hz'
    clear hval' hol' hz'
    have hccI : (cc : Int) < 1000000000 := by omega
    have HC := Lib.hid hcc
    clear hcc
    have hkN : k + n2 < N := by have := HN.out; omega
    by_cases hltj : j < n2
    ·obtain ⟨b2, o2, rfl, hbl2, hcell2⟩ := (h2.below hk2) (by omega)
     have hyc : wr.cell? ⟨b2, o2 + j, none⟩ = some (.int .u32 (ix ys j : Nat)) := hcell2 j hltj
     clear hcell2
     have hc0 := hown2.u32cell (i := k + j) (by rw [HL'.out]; omega)
     have hf0 := hown2.frozen (k + j)
     have hob1 : (ix out' (k + j) : Int) < 1000000000 := by have := hob'.ix (k + j); omega
     have hx1 : (ix xs k : Int) < 1000000000 := by have := ha.ix k; omega
     have hy1 : (ix ys j : Int) < 1000000000 := by have := hb.ix j; omega
     have hpq : ((ix xs k : Nat) : Int) * ((ix ys j : Nat) : Int) ≤ 999999998000000001 := by
      have := mul_lt_base _ _ (ha.ix k) (hb.ix j)
      rw [← Int.natCast_mul]; omega
     have hpq0 : (0 : Int) ≤ ((ix xs k : Nat) : Int) * ((ix ys j : Nat) : Int) := by rw [← Int.natCast_mul]; omega
     go_wp2
     go_roundw
     case rel => exact ⟨j + 1, (ix out' (k + j) + ix xs k * ix ys j + cc) / 1000000000, out'.set (k + j) ((ix out' (k + j) + ix xs k * ix ys j + cc) % 1000000000), by omega, by go_num,
      by rw [cast_div], by have := mul_lt_base _ _ (ha.ix k) (hb.ix j); have := hob'.ix (k + j); omega, by rw [List.length_set]; exact HL'.out, hob'.set _ _ (by omega),
      times_in xs ys out' k j cc _ _ (by rw [HL'.out]; omega) HV'.out (by omega), fun i hi => by rw [ix_set _ _ _ _ (by rw [HL'.out]; omega), if_neg (by omega)]; exact HZ'.out i hi,
      hown2.put _ _ (cast_mod _ _ _ _), hk2.set (Nat.le_refl _) _⟩
     case measure => simp [intOf]; omega
    ·obtain rfl : j = n2 := by omega
     have hc0 := hown2.u32cell (i := k + j) (by rw [HL'.out]; omega)
     have hf0 := hown2.frozen (k + j)
     go_wp2
     go_roundw
     case rel =>
      refine ⟨k + 1, out'.set (k + j) cc, by omega, by go_num, by rw [List.length_set]; exact HL'.out, hob'.set _ _ HC.out, ?_, fun i hi => ?_, hown2.put _ _ rfl, hk2.set (Nat.le_refl _) _⟩
      ·have he := HE2.out
       subst he
       exact times_out xs ys out' k cc (by rw [HL'.out]; omega) (HZ'.out _ (Nat.le_refl _)) HV'.out
      ·rw [ix_set _ _ _ _ (by rw [HL'.out]; omega), if_neg (by omega)]
       exact HZ'.out i (by omega)
     case measure => simp [intOf]; omega
  ·obtain rfl : k = n1 := by omega
   go_wp2_with fail
   refine (trim_n _ _ _ out wo HL.out (by rw [← HL.out]; exact hown1.row) (Nat.le_refl _) (by simp only [maxLen]; omega)).mono ?_
   rintro e w1 ⟨rfl, rfl⟩
   go_wp2
   go_ret
   refine ⟨_, rfl, ?_, hk1⟩
   have hv := HV.out
   rw [List.take_of_length_le (by rw [HE1.out]; exact Nat.le_refl _)] at hv
   rw [← hv, ← trimL_eq hob]
   exact owns_trim hown1 HL.out (Nat.le_refl _) (by simp only [maxLen]; omega)
theorem times_any (v1 v2 : Value) (a b : Nat) (w : World) (h1 : U32 w v1 (dig a)) (h2 : U32 w v2 (dig b)) (hm1 : (dig a).length ≤ 1000000) (hm2 : (dig b).length ≤ 1000000) :
 Calls Tryz.prog 137 #[v1, v2] w fun e w' => ∃ v, e = .returned v ∧ w'.ownsRow w.heap.size 109 1 v (dig (a * b)).length (u32s (dig (a * b))) ∧ Keeps w w' := by
 obtain ⟨A, n, c, rfl, e1, -, -, -, r1⟩ := h1.open_
 obtain ⟨D, m, d, rfl, e2, -, -, -, r2⟩ := h2.open_
 have := times_core A D n m c d _ _ w e1 e2 r1 r2 (AllB.dig a) (AllB.dig b) (by omega) (by omega)
 rwa [val_dig, val_dig] at this
theorem plus_d (v1 v2 : Value) (a b : Nat) (w : World) (h1 : U32 w v1 (dig a)) (h2 : U32 w v2 (dig b)) (hm1 : (dig a).length ≤ 1000000) (hm2 : (dig b).length ≤ 1000000) :
 Calls Tryz.prog 171 #[v1, v2] w fun e w' => ∃ v, e = .returned v ∧ U32 w' v (dig (a + b)) ∧ Keeps w w' := by
 obtain ⟨A, c, rfl, -, -, -, r1⟩ := h1
 obtain ⟨D, d, rfl, -, -, -, r2⟩ := h2
 have := plus_any A D c d _ _ w r1 r2 (AllB.dig a) (AllB.dig b) hm1 hm2
 rwa [val_dig, val_dig] at this
theorem minus_d (v1 v2 : Value) (a b : Nat) (w : World) (h1 : U32 w v1 (dig a)) (h2 : U32 w v2 (dig b)) (hm1 : (dig a).length ≤ 1000000) (hle : b ≤ a) :
 Calls Tryz.prog 172 #[v1, v2] w fun e w' => ∃ v, e = .returned v ∧ U32 w' v (dig (a - b)) ∧ Keeps w w' := by
 obtain ⟨A, n, c, rfl, e1, -, -, -, r1⟩ := h1.open_
 obtain ⟨D, m, d, rfl, e2, -, -, -, r2⟩ := h2.open_
 have := minus_any A D n m c d _ _ w e1 e2 r1 r2 (AllB.dig a) (AllB.dig b) (by omega) (by have := dig_length_mono hle; omega) (by rw [val_dig, val_dig]; exact hle)
 rwa [val_dig, val_dig] at this

set_option maxRecDepth 100000 in
set_option maxHeartbeats 1000000 in
theorem sum_any (n1 n2 : Bool) (v1 v2 : Value) (a b : Nat) (w : World) (h1 : U32 w v1 (dig a)) (h2 : U32 w v2 (dig b)) (hm1 : (dig a).length ≤ 1000000) (hm2 : (dig b).length ≤ 1000000) :
 Calls Tryz.prog 138 #[.bool n1, v1, .bool n2, v2] w fun e w' => ∃ V, e = .returned V ∧ IntRep w' V (sgn n1 a + sgn n2 b) ∧ Keeps w w' := by
 have hk0 := box2 w (.cells #[.bool false, .slice none 0 0] 29)
 have hR := Own.new w 29 [.bool false, .slice none 0 0]
 have g1 := h1.below hk0
 have g2 := h2.below hk0
 by_cases hn : n1 = n2
 ·subst hn
  have hb : (n1 == n1) = true := by simp
  go_enter Tryz.func138, Tryz.ntmps138
  go_wp2_with fail
  refine (plus_d v1 v2 a b _ g1 g2 hm1 hm2).mono ?_
  rintro e w1 ⟨v3, rfl, hv3, hk1⟩
  go_wp2_with fail
  refine (made_d n1 v3 _ _ hv3).mono ?_
  rintro e w2 ⟨V4, rfl, hr4, hk2⟩
  obtain ⟨A3, n3, c3, rfl, hv4⟩ := hr4.open_
  have hR2 := (hR.below hk1).below hk2
  have hk := (hk0.trans' hk1).trans' hk2
  have r0 := hR2.c0
  have r1 := hR2.c1
  have f0 := hR2.frozen 0
  have f1 := hR2.frozen 1
  obtain ⟨z, hz⟩ : ∃ z, sgn n1 (a + b) = z := ⟨_, rfl⟩
  rw [hz] at hr4 hv4 ⊢
  have HZ := Lib.hid hz
  clear hz
  go_wp2
  have hR4 := hR2.two (.bool (decide (z < 0))) (.slice A3 n3 c3)
  refine bodyPost_ret (v := .agg #[.bool (decide (z < 0)), .slice A3 n3 c3]) (by simp [results, Tryz.results138, go_sem, hR4.c0, hR4.c1]) rfl ?_
  refine ⟨_, rfl, ?_, (hk.set (Nat.le_refl _) _).set (Nat.le_refl _) _⟩
  rw [show sgn n1 a + sgn n1 b = z by rw [← HZ.out]; cases n1 <;> simp [sgn]; omega]
  exact hr4.two hR2 rfl rfl rfl
 ·have hb : (n1 == n2) = false := by simpa using hn
  by_cases hab : b ≤ a
  ·have hs : decide (0 ≤ ((a : Int) - b).sign) = true := decide_eq_true (by
    rcases Nat.eq_or_lt_of_le hab with h | h
    ·subst h; simp
    ·rw [Int.sign_eq_one_of_pos (by omega)]; omega)
   have HA := Lib.hid hab
   have HN := Lib.hid hn
   clear hab hn
   go_enter Tryz.func138, Tryz.ntmps138
   go_wp2_with fail
   refine (compare_any v1 v2 a b _ g1 g2 (by omega) (by omega)).mono ?_
   rintro e w0 ⟨rfl, hk1⟩
   go_wp2_with fail
   refine (minus_d v1 v2 a b _ (g1.below hk1) (g2.below hk1) hm1 HA.out).mono ?_
   rintro e w1 ⟨v3, rfl, hv3, hk2⟩
   go_wp2_with fail
   refine (made_d n1 v3 _ _ hv3).mono ?_
   rintro e w2 ⟨V4, rfl, hr4, hk3⟩
   obtain ⟨A3, n3, c3, rfl, hv4⟩ := hr4.open_
   have hR2 := ((hR.below hk1).below hk2).below hk3
   have hk := ((hk0.trans' hk1).trans' hk2).trans' hk3
   have r0 := hR2.c0
   have r1 := hR2.c1
   have f0 := hR2.frozen 0
   have f1 := hR2.frozen 1
   obtain ⟨z, hz⟩ : ∃ z, sgn n1 (a - b) = z := ⟨_, rfl⟩
   rw [hz] at hr4 hv4 ⊢
   have HZ := Lib.hid hz
   clear hz
   go_wp2
   have hR4 := hR2.two (.bool (decide (z < 0))) (.slice A3 n3 c3)
   refine bodyPost_ret (v := .agg #[.bool (decide (z < 0)), .slice A3 n3 c3]) (by simp [results, Tryz.results138, go_sem, hR4.c0, hR4.c1]) rfl ?_
   refine ⟨_, rfl, ?_, (hk.set (Nat.le_refl _) _).set (Nat.le_refl _) _⟩
   rw [show sgn n1 a + sgn n2 b = z by
    rw [← HZ.out]; have h1 := HN.out; have h2 := HA.out; cases n1 <;> cases n2 <;> simp [sgn] at h1 ⊢ <;> omega]
   exact hr4.two hR2 rfl rfl rfl
  ·have hs : decide (0 ≤ ((a : Int) - b).sign) = false := decide_eq_false (by
    rw [Int.sign_eq_neg_one_of_neg (by omega)]; omega)
   have HA := Lib.hid hab
   have HN := Lib.hid hn
   clear hab hn
   go_enter Tryz.func138, Tryz.ntmps138
   go_wp2_with fail
   refine (compare_any v1 v2 a b _ g1 g2 (by omega) (by omega)).mono ?_
   rintro e w0 ⟨rfl, hk1⟩
   go_wp2_with fail
   refine (minus_d v2 v1 b a _ (g2.below hk1) (g1.below hk1) hm2 (by have := HA.out; omega)).mono ?_
   rintro e w1 ⟨v3, rfl, hv3, hk2⟩
   go_wp2_with fail
   refine (made_d n2 v3 _ _ hv3).mono ?_
   rintro e w2 ⟨V4, rfl, hr4, hk3⟩
   obtain ⟨A3, n3, c3, rfl, hv4⟩ := hr4.open_
   have hR2 := ((hR.below hk1).below hk2).below hk3
   have hk := ((hk0.trans' hk1).trans' hk2).trans' hk3
   have r0 := hR2.c0
   have r1 := hR2.c1
   have f0 := hR2.frozen 0
   have f1 := hR2.frozen 1
   obtain ⟨z, hz⟩ : ∃ z, sgn n2 (b - a) = z := ⟨_, rfl⟩
   rw [hz] at hr4 hv4 ⊢
   have HZ := Lib.hid hz
   clear hz
   go_wp2
   have hR4 := hR2.two (.bool (decide (z < 0))) (.slice A3 n3 c3)
   refine bodyPost_ret (v := .agg #[.bool (decide (z < 0)), .slice A3 n3 c3]) (by simp [results, Tryz.results138, go_sem, hR4.c0, hR4.c1]) rfl ?_
   refine ⟨_, rfl, ?_, (hk.set (Nat.le_refl _) _).set (Nat.le_refl _) _⟩
   rw [show sgn n1 a + sgn n2 b = z by
    rw [← HZ.out]; have h1 := HN.out; have h2 := HA.out; cases n1 <;> cases n2 <;> simp [sgn] at h1 ⊢ <;> omega]
   exact hr4.two hR2 rfl rfl rfl

set_option maxRecDepth 100000 in
set_option maxHeartbeats 1000000 in
theorem add_any (n1 n2 : Bool) (xs ys : List Nat) (V1 V2 : Value) (w : World) (h1 : IntArg w V1 n1 xs) (h2 : IntArg w V2 n2 ys) (hm1 : xs.length ≤ 1000000) (hm2 : ys.length ≤ 1000000) :
 Calls Tryz.prog 95 #[V1, V2] w fun e w' => ∃ V, e = .returned V ∧ IntRep w' V (cnt n1 xs + cnt n2 ys) ∧ Keeps w w' := by
 obtain ⟨v1, rfl, hv1⟩ := h1
 obtain ⟨v2, rfl, hv2⟩ := h2
 have hml1 := mag_length n1 xs
 have hml2 := mag_length n2 ys
 have hkk := keep3 w (.cells #[.bool n1, v1] 29) (.cells #[.bool n2, v2] 29) (.cells #[.bool false, .slice none 0 0] 29)
 have hG1 := Lib.hid (fun W (hW : IntArg W (.agg #[.bool n1, v1]) n1 xs) => groups_any n1 xs (.agg #[.bool n1, v1]) W hW hm1)
 have hG2 := Lib.hid (fun W (hW : IntArg W (.agg #[.bool n2, v2]) n2 ys) => groups_any n2 ys (.agg #[.bool n2, v2]) W hW hm2)
 have hR := own3 w (.cells #[.bool n1, v1] 29) (.cells #[.bool n2, v2] 29) 29 [.bool false, .slice none 0 0]
 have hB := (own2 w (.cells #[.bool n1, v1] 29) 29 [.bool n2, v2]).alloc (.cells #[.bool false, .slice none 0 0] 29)
 have hA := ((Own.new w 29 [.bool n1, v1]).alloc (.cells #[.bool n2, v2] 29)).alloc (.cells #[.bool false, .slice none 0 0] 29)
 go_enter Tryz.func95, Tryz.ntmps95
 go_wp2_with fail
 have g1 := hv1.below hkk
 have g2 := hv2.below hkk
 generalize ((w.alloc (.cells #[.bool n1, v1] 29)).alloc (.cells #[.bool n2, v2] 29)).alloc (.cells #[.bool false, .slice none 0 0] 29) = W at *
 have a0 := hA.c0
 have a1 := hA.c1
 have b0 := hB.c0
 have b1 := hB.c1
 go_region_held3 (fun w' => w'.cell? ⟨w.heap.size, 0, none⟩ = some (.bool n1) ∧ w'.cell? ⟨w.heap.size, 1, none⟩ = some v1 ∧ w'.cell? ⟨w.heap.size + 1, 0, none⟩ = some (.bool n2) ∧ w'.cell? ⟨w.heap.size + 1, 1, none⟩ = some v2)
  (first | exact ⟨a0, a1, b0, b1⟩ | exact ⟨hA1.c0, hA1.c1, hB1.c0, hB1.c1⟩ | exact ⟨hA2.c0, hA2.c1, hB2.c0, hB2.c1⟩ | exact ⟨hAt.c0, hAt.c1, hBt.c0, hBt.c1⟩ | exact ⟨hA3.c0, hA3.c1, hB3.c0, hB3.c1⟩ | exact ⟨(hA3.far2 (by omega)).c0, (hA3.far2 (by omega)).c1, (hB3.far2 (by omega)).c0, (hB3.far2 (by omega)).c1⟩)
  (first
   | (go_at_call_of 127 (Value.agg #[Value.bool n1, v1]); refine (hG1.out W.drew ⟨v1, rfl, g1⟩).mono ?_; rintro e w1 ⟨u1, rfl, hu1, hk1⟩; have hA1 := hA.drew.below hk1; have hB1 := hB.drew.below hk1)
   | (go_at_call_of 127 (Value.agg #[Value.bool n2, v2]); refine (hG2.out w1 ⟨v2, rfl, U32.below (w := W.drew) g2 hk1⟩).mono ?_; rintro e w2 ⟨u2, rfl, hu2, hk2⟩; have hA2 := hA1.below hk2; have hB2 := hB1.below hk2)
   | (go_at_call 138; refine (sum_any n1 n2 u1 u2 _ _ _ (hu1.below hk2) hu2 (by omega) (by omega)).mono ?_; rintro e w3 ⟨V3, rfl, hr3, hk3⟩; have hA3 := hA2.below hk3; have hB3 := hB2.below hk3; have hR3 := ((hR.drew.below hk1).below hk2).below hk3; have hkR := ((Keeps.trans' (Below.drew hkk) hk1).trans' hk2).trans' hk3; obtain ⟨A3, n3, c3, rfl, hv3⟩ := hr3.open_; have r0 := hR3.c0; have r1 := hR3.c1; have f0 := hR3.frozen 0; have f1 := hR3.frozen 1))
 obtain ⟨z, hz⟩ : ∃ z, sgn n1 (mag n1 xs) + sgn n2 (mag n2 ys) = z := ⟨_, rfl⟩
 rw [hz] at hr3 hv3
 simp only [hz]
 have HZ := Lib.hid hz
 clear hz
 go_wp2
 have hR4 := hR3.two (.bool (decide (z < 0))) (.slice A3 n3 c3)
 refine bodyPost_ret (v := .agg #[.bool (decide (z < 0)), .slice A3 n3 c3]) (by simp [results, Tryz.results95, go_sem, hR4.c0, hR4.c1]) rfl ?_
 refine ⟨_, rfl, ?_, (hkR.set (by simp; omega) _).set (by simp; omega) _⟩
 rw [show cnt n1 xs + cnt n2 ys = z by rw [← HZ.out]; rfl]
 exact hr3.two hR3 rfl rfl rfl


set_option maxRecDepth 100000 in
set_option maxHeartbeats 1000000 in
theorem mul_any (n1 n2 : Bool) (xs ys : List Nat) (V1 V2 : Value) (w : World) (h1 : IntArg w V1 n1 xs) (h2 : IntArg w V2 n2 ys) (hm1 : xs.length ≤ 1000000) (hm2 : ys.length ≤ 1000000) :
 Calls Tryz.prog 94 #[V1, V2] w fun e w' => ∃ V, e = .returned V ∧ IntRep w' V (cnt n1 xs * cnt n2 ys) ∧ Keeps w w' := by
 obtain ⟨v1, rfl, hv1⟩ := h1
 obtain ⟨v2, rfl, hv2⟩ := h2
 have hml1 := mag_length n1 xs
 have hml2 := mag_length n2 ys
 have hkk := keep3 w (.cells #[.bool n1, v1] 29) (.cells #[.bool n2, v2] 29) (.cells #[.bool false, .slice none 0 0] 29)
 have hG1 := Lib.hid (fun W (hW : IntArg W (.agg #[.bool n1, v1]) n1 xs) => groups_any n1 xs (.agg #[.bool n1, v1]) W hW hm1)
 have hG2 := Lib.hid (fun W (hW : IntArg W (.agg #[.bool n2, v2]) n2 ys) => groups_any n2 ys (.agg #[.bool n2, v2]) W hW hm2)
 have hR := own3 w (.cells #[.bool n1, v1] 29) (.cells #[.bool n2, v2] 29) 29 [.bool false, .slice none 0 0]
 have hB := (own2 w (.cells #[.bool n1, v1] 29) 29 [.bool n2, v2]).alloc (.cells #[.bool false, .slice none 0 0] 29)
 have hA := ((Own.new w 29 [.bool n1, v1]).alloc (.cells #[.bool n2, v2] 29)).alloc (.cells #[.bool false, .slice none 0 0] 29)
 go_enter Tryz.func94, Tryz.ntmps94
 go_wp2_with fail
 have g1 := hv1.below hkk
 have g2 := hv2.below hkk
 generalize ((w.alloc (.cells #[.bool n1, v1] 29)).alloc (.cells #[.bool n2, v2] 29)).alloc (.cells #[.bool false, .slice none 0 0] 29) = W at *
 have a0 := hA.c0
 have a1 := hA.c1
 have b0 := hB.c0
 have b1 := hB.c1
 go_region_held3 (fun w' => w'.cell? ⟨w.heap.size, 0, none⟩ = some (.bool n1) ∧ w'.cell? ⟨w.heap.size, 1, none⟩ = some v1 ∧ w'.cell? ⟨w.heap.size + 1, 0, none⟩ = some (.bool n2) ∧ w'.cell? ⟨w.heap.size + 1, 1, none⟩ = some v2)
  (first | exact ⟨a0, a1, b0, b1⟩ | exact ⟨hA1.c0, hA1.c1, hB1.c0, hB1.c1⟩ | exact ⟨hA2.c0, hA2.c1, hB2.c0, hB2.c1⟩ | exact ⟨hAt.c0, hAt.c1, hBt.c0, hBt.c1⟩ | exact ⟨hA3.c0, hA3.c1, hB3.c0, hB3.c1⟩ | exact ⟨(hA3.far2 (by omega)).c0, (hA3.far2 (by omega)).c1, (hB3.far2 (by omega)).c0, (hB3.far2 (by omega)).c1⟩)
  (first
   | (go_at_call_of 127 (Value.agg #[Value.bool n1, v1]); refine (hG1.out W.drew ⟨v1, rfl, g1⟩).mono ?_; rintro e w1 ⟨u1, rfl, hu1, hk1⟩; have hA1 := hA.drew.below hk1; have hB1 := hB.drew.below hk1)
   | (go_at_call_of 127 (Value.agg #[Value.bool n2, v2]); refine (hG2.out w1 ⟨v2, rfl, U32.below (w := W.drew) g2 hk1⟩).mono ?_; rintro e w2 ⟨u2, rfl, hu2, hk2⟩; have hA2 := hA1.below hk2; have hB2 := hB1.below hk2)
   | (go_at_call 137; refine (times_any u1 u2 _ _ _ (hu1.below hk2) hu2 (by omega) (by omega)).mono ?_; rintro e wt ⟨vt, rfl, ht, hkt⟩; have hAt := hA2.below hkt; have hBt := hB2.below hkt)
   | (go_at_call 90; refine (made_d (n1 != n2) vt _ _ (U32.of_own ht)).mono ?_; rintro e w3 ⟨V3, rfl, hr3, hk3⟩; have hA3 := hAt.below hk3; have hB3 := hBt.below hk3; have hR3 := (((hR.drew.below hk1).below hk2).below hkt).below hk3; have hkR := (((Keeps.trans' (Below.drew hkk) hk1).trans' hk2).trans' hkt).trans' hk3; obtain ⟨A3, n3, c3, rfl, hv3⟩ := hr3.open_; have r0 := hR3.c0; have r1 := hR3.c1; have f0 := hR3.frozen 0; have f1 := hR3.frozen 1))
 obtain ⟨z, hz⟩ : ∃ z, sgn (n1 != n2) (mag n1 xs * mag n2 ys) = z := ⟨_, rfl⟩
 rw [hz] at hr3 hv3
 simp only [hz]
 have HZ := Lib.hid hz
 clear hz
 go_wp2
 have hR4 := hR3.two (.bool (decide (z < 0))) (.slice A3 n3 c3)
 refine bodyPost_ret (v := .agg #[.bool (decide (z < 0)), .slice A3 n3 c3]) (by simp [results, Tryz.results94, go_sem, hR4.c0, hR4.c1]) rfl ?_
 refine ⟨_, rfl, ?_, (hkR.set (by simp; omega) _).set (by simp; omega) _⟩
 rw [show cnt n1 xs * cnt n2 ys = z by rw [← HZ.out]; unfold cnt; cases n1 <;> cases n2 <;> simp [sgn, Int.neg_mul, Int.mul_neg]]
 exact hr3.two hR3 rfl rfl rfl

end Go.Proofs.YtgcigdahjabimaaGreatDoor
namespace Go.Proofs.YtgcigdahjabimaaGreatDoor
open Go.RowKit
theorem made1 (w : World) (t : TypeId) : (w.alloc (.cells #[] t)).ownsRow w.heap.size t 1 (.slice (some ⟨w.heap.size, 0, none⟩) 0 0) 0 [] :=
 World.ownsRow_made w #[] 0 (Nat.le_refl _) (by simp [maxLen]) rfl
theorem made2 (w : World) (o : Obj) (t : TypeId) : ((w.alloc o).alloc (.cells #[] t)).ownsRow (w.heap.size + 1) t 1 (.slice (some ⟨w.heap.size + 1, 0, none⟩) 0 0) 0 [] := by
 have := made1 (w.alloc o) t
 rwa [World.size_alloc] at this
theorem below_drewN {B : Nat} {a w : World} (h : Below B a w) (n : Nat) : Below B a (w.drewN n) := ⟨h.os, h.tape, h.output, h.size, h.block⟩
theorem Own.drewN {w : World} {b : Nat} {t : TypeId} {vs : List Value} (h : Own w b t vs) (n : Nat) : Own (w.drewN n) b t vs := h
theorem Row.drewN {w : World} {A : Option Addr} {m : Nat} {f : Nat → Value} (h : Row w A m f) (n : Nat) : Row (w.drewN n) A m f := h
theorem U32.drewN {w : World} {v : Value} {xs : List Nat} (h : U32 w v xs) (n : Nat) : U32 (w.drewN n) v xs := h
theorem U32.drew {w : World} {v : Value} {xs : List Nat} (h : U32 w v xs) : U32 w.drew v xs := h
theorem Keeps.drewN {w w' : World} (h : Keeps w w') (n : Nat) : Keeps w (w'.drewN n) := below_drewN h n
theorem bne_cast (x : Nat) : (((x : Nat) : Int) != 0) = (x != 0) := by rw [Bool.eq_iff_iff]; simp
theorem wp_append_row {P : Program} {w : World} {o : Oper} {a : Act} {K : Act → World → Prop} {Q : Exit → Act → World → Prop} (s x : Operand) (t : TypeId)
 (ho : o.op = .call { callee := .builtin .append, args := #[s, x], argTypes := #[t, t] })
 (base : Nat) (e : TypeId) (i : TypeInfo) (z : Value) (bytes : Nat) (ht : P.underlying t = some (.slice e)) (hi : P.info? e = some i) (hz : i.zero = some z)
 (hsize : i.size = 1) (hby : i.bytes = bytes) (hzs : z.cells.size = 1)
 (v : Value) (n : Nat) (xs : List Value) (hs : a.eval s = v) (hown : w.ownsRow base e 1 v n xs)
 (A : Option Addr) (m c : Nat) (f : Nat → Value) (hx : a.eval x = .slice A m c) (hA : A = none → c = 0) (hmc : m ≤ c) (hr : Row w A m f) (h1 : ∀ j, (f j).oneCell' = true)
 (h63 : n + m ≤ maxLen) (hbytes : (n + m) * bytes ≤ 140737488355328) (hbase : base ≤ w.heap.size)
 (h : ∀ v' w', w'.ownsRow base e 1 v' (n + m) (xs ++ (List.range m).map f) → w.grownBy w' v.ownBlock → K (a.put o.dst v') w') : o.wp P a w K Q := by
 rcases A with _ | ad
 ·obtain rfl := hA rfl
  obtain rfl : m = 0 := by omega
  have hrun := run_append_owned_none (P := P) (w := w) base t o.type e i 1 ht hi v n xs hown
  unfold Oper.wp
  simp only [execOp, ho, resolve, invoke, builtin, Sem.run_bind, Sem.run_pure, Result.andThen_ok, List.map_toArray, List.map_cons, List.map_nil, hs, hx, hrun]
  exact h v w (by simpa using hown) ⟨rfl, rfl, rfl, Nat.le_refl _, fun _ _ _ => rfl⟩
 ·refine wp_append_own w s x t ho base e i z 1 bytes ht hi hz hsize hby hzs (by omega) v n xs hs hown ad m c ((List.range m).map f) hx (by simp) ?_ (by intro u hu; obtain ⟨j, _, rfl⟩ := List.mem_map.1 hu; exact h1 j) h63 hbytes hbase (fun v' w' h2 h3 _ => h v' w' h2 h3)
  intro j u hu
  have hj : j < m := by
   rcases Nat.lt_or_ge j m with h | h
   ·exact h
   ·rw [List.getElem?_eq_none (by simpa using h)] at hu; cases hu
  obtain ⟨b, off, e1, _, hc⟩ := hr (by omega)
  cases e1
  rw [List.getElem?_map, List.getElem?_range hj] at hu
  cases hu
  have e2 : (⟨b, off, none⟩ : Addr).add j = ⟨b, off + j, none⟩ := by unfold Addr.add; split <;> simp_all
  rw [e2]
  exact hc j hj
theorem step_append_row {P : Program} {w : World} {ops : Array Oper} {o : Oper} {a : Act} {K : Act → World → Prop} {Q : Exit → Act → World → Prop} {E : Prop} (hgd : o.guard = none) (s x : Operand) (t : TypeId)
 (ho : o.op = .call { callee := .builtin .append, args := #[s, x], argTypes := #[t, t] })
 (base : Nat) (e : TypeId) (i : TypeInfo) (z : Value) (bytes : Nat) (ht : P.underlying t = some (.slice e)) (hi : P.info? e = some i) (hz : i.zero = some z)
 (hsize : i.size = 1) (hby : i.bytes = bytes) (hzs : z.cells.size = 1)
 (v : Value) (n : Nat) (xs : List Value) (hs : a.eval s = v) (hown : w.ownsRow base e 1 v n xs)
 (A : Option Addr) (m c : Nat) (f : Nat → Value) (hx : a.eval x = .slice A m c) (hA : A = none → c = 0) (hmc : m ≤ c) (hr : Row w A m f) (h1 : ∀ j, (f j).oneCell' = true)
 (h63 : n + m ≤ maxLen) (hbytes : (n + m) * bytes ≤ 140737488355328) (hbase : base ≤ w.heap.size)
 (h : ∀ v' w', w'.ownsRow base e 1 v' (n + m) (xs ++ (List.range m).map f) → w.grownBy w' v.ownBlock → K (a.put o.dst v') w') :
 if Region.wanted o (yielded ops a.tmps) = true then Oper.wp P o a w K Q else E := by
 have hw : Region.wanted o (yielded ops a.tmps) = true := by simp [Region.wanted, hgd]
 rw [if_pos hw]
 exact wp_append_row s x t ho base e i z bytes ht hi hz hsize hby hzs v n xs hs hown A m c f hx hA hmc hr h1 h63 hbytes hbase h
end Go.Proofs.YtgcigdahjabimaaGreatDoor
