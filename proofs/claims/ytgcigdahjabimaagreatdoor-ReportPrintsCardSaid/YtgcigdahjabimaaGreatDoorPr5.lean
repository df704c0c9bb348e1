/- The walks of the reference's Same, group, size. The walks of the reference's size, plus, minus. The walks of the reference's minus, Sign, Neg, Abs, Of. The walks of the reference's Neg, Abs, Of. -/
import Derived.Test.YtgcigdahjabimaaGreatDoorPr4
namespace Go.Proofs.YtgcigdahjabimaaGreatDoor
open Go.RowKit Go.Shelf

theorem group_any (v : Value) (xs : List Nat) (i : Nat) (w : World) (h : U32 w v xs) (ha : AllB xs) (hm : xs.length ≤ 1000000000) (hi : i ≤ 1000000000) :
 Calls Tryz.prog 139 #[v, .int .i64 (i : Nat)] w fun e w' => e = .returned (.int .u64 (ix xs i : Nat)) ∧ w = w' := by
 obtain ⟨A, n, c, rfl, e, -, -, -, hr⟩ := h.open_
 by_cases hlt : i < n
 ·obtain ⟨b, o, rfl, hb, hcell⟩ := hr (by omega)
  have hx : w.cell? ⟨b, o + i, none⟩ = some (.int .u32 (ix xs i : Nat)) := hcell i hlt
  have hxb : (ix xs i : Int) < 1000000000 := by have := ha.ix i; omega
  clear hcell e
  go_enter Tryz.func139, Tryz.ntmps139
  go_wp2
  go_ret
  exact ⟨rfl, rfl⟩
 ·have HZ := Lib.hid (ix_past xs i (by omega))
  clear e
  go_enter Tryz.func139, Tryz.ntmps139
  go_wp2
  go_ret
  exact ⟨by rw [HZ.out]; rfl, rfl⟩

set_option maxRecDepth 100000 in
set_option maxHeartbeats 400000 in
theorem size_any (v1 v2 : Value) (a b : Nat) (w : World) (h1 : U32 w v1 (dig a)) (h2 : U32 w v2 (dig b)) (hm1 : (dig a).length ≤ 1000000) (hm2 : (dig b).length ≤ 1000000) :
 Calls Tryz.prog 102 #[v1, v2] w fun e w' => e = .returned (.int .i64 ((a : Int) - b).sign) ∧ Keeps w w' := by
 obtain ⟨A, n, c, rfl, e1, -, -, -, r1⟩ := h1.open_
 obtain ⟨D, m, d, rfl, e2, -, -, -, r2⟩ := h2.open_
 have hn1 : n ≤ 1000000 := by omega
 have hn2 : m ≤ 1000000 := by omega
 have HE1 := Lib.hid e1
 have HE2 := Lib.hid e2
 clear e1 e2 hm1 hm2 h1 h2
 by_cases hl : n = m
 ·subst hl
  have hnn : ((n : Int) != n) = false := by simp
  go_enter Tryz.func102, Tryz.ntmps102
  go_wp2
  go_loopw [5] (fun i wr => ∃ k : Nat, k ≤ n ∧ i = .int .i64 ((n : Int) - 1 - (k : Nat)) ∧ (dig a).drop (n - k) = (dig b).drop (n - k) ∧ Keeps w wr) (fun i _ => (intOf i + 1).toNat)
  case atStart => exact ⟨0, by omega, by go_num, by rw [List.drop_of_length_le (by rw [HE1.out]; omega), List.drop_of_length_le (by rw [HE2.out]; omega)], Below.refl _ _⟩
  case round =>
   obtain ⟨k, hk, rfl, hd, hkr⟩ := hrel
   by_cases hlt : k < n
   ·have e : (n : Int) - 1 - (k : Int) = ((n - 1 - k : Nat) : Int) := by omega
    rw [e]
    clear e
    obtain ⟨q, hq⟩ : ∃ q, n - 1 - k = q := ⟨_, rfl⟩
    rw [show n - k = q + 1 by omega] at hd
    rw [hq]
    have hqn : q < n := by omega
    have h00 : (0 : Int) ≤ (q : Int) := by omega
    have h01 : (q : Int) < (n : Int) := by omega
    have HD := Lib.hid hd
    have HQ := Lib.hid hq
    clear hd hq
    obtain ⟨b1, o1, rfl, hb1, hcell⟩ := (r1.below hkr) (by omega)
    obtain ⟨b2, o2, rfl, hb2, hcell2⟩ := (r2.below hkr) (by omega)
    have hx : wr.cell? ⟨b1, o1 + q, none⟩ = some (.int .u32 (ix (dig a) q : Nat)) := hcell q hqn
    have hy : wr.cell? ⟨b2, o2 + q, none⟩ = some (.int .u32 (ix (dig b) q : Nat)) := hcell2 q hqn
    clear hcell hcell2
    have hcmp := dig_cmp_at a b q (HE1.out.trans HE2.out.symm) (by rw [HE1.out]; exact hqn) HD.out
    have HC := Lib.hid hcmp
    clear hcmp
    rcases Nat.lt_trichotomy (ix (dig a) q) (ix (dig b) q) with hs | hs | hs
    ·have b1 : decide (ix (dig a) q < ix (dig b) q) = true := decide_eq_true (by omega)
     have HS := Lib.hid hs
     clear hs
     go_wp2
     go_quiet (fail)
     go_wp2
     go_ret
     exact ⟨ret_int (by have := HS.out; rw [HC.out (by omega), Int.sign_eq_neg_one_of_neg (by omega)]), below_drewN hkr _⟩
    ·have b1 : decide (ix (dig a) q < ix (dig b) q) = false := decide_eq_false (by omega)
     have b2 : decide (ix (dig b) q < ix (dig a) q) = false := decide_eq_false (by omega)
     have HS := Lib.hid hs
     clear hs
     go_wp2
     go_quiet (fail)
     go_wp2
     go_quiet (fail)
     go_wp2
     go_roundw
     case rel => exact ⟨k + 1, by omega, by have := HQ.out; congr 1; omega, by rw [show n - (k + 1) = q by have := HQ.out; omega, drop_cons (dig a) q (by rw [HE1.out]; exact hqn), drop_cons (dig b) q (by rw [HE2.out]; exact hqn), HS.out, HD.out], below_drewN hkr _⟩
     case measure => have := HQ.out; simp [intOf]
    ·have b1 : decide (ix (dig a) q < ix (dig b) q) = false := decide_eq_false (by omega)
     have b2 : decide (ix (dig b) q < ix (dig a) q) = true := decide_eq_true (by omega)
     have HS := Lib.hid hs
     clear hs
     go_wp2
     go_quiet (fail)
     go_wp2
     go_quiet (fail)
     go_wp2
     go_ret
     exact ⟨ret_int (by have := HS.out; rw [HC.out (by omega), Int.sign_eq_one_of_pos (by omega)]), below_drewN (below_drewN hkr _) _⟩
   ·obtain rfl : k = n := by omega
    rw [Nat.sub_self, List.drop_zero, List.drop_zero] at hd
    have he := Lib.hid (dig_inj hd)
    clear hd
    go_wp2
    go_ret
    exact ⟨ret_int (by rw [he.out]; simp), hkr⟩
 ·have hnn : ((n : Int) != m) = true := by rw [bne_iff_ne]; omega
  rcases Nat.lt_or_gt_of_ne hl with hs | hs
  ·have := dig_lt_of_length (a := a) (b := b) (by rw [HE1.out, HE2.out]; exact hs)
   have HS := Lib.hid this
   clear this
   go_enter Tryz.func102, Tryz.ntmps102
   go_wp2
   go_ret
   exact ⟨ret_int (by have := HS.out; rw [Int.sign_eq_neg_one_of_neg (by omega)]), Below.refl _ _⟩
  ·have := dig_lt_of_length (a := b) (b := a) (by rw [HE1.out, HE2.out]; exact hs)
   have HS := Lib.hid this
   clear this
   go_enter Tryz.func102, Tryz.ntmps102
   go_wp2
   go_ret
   exact ⟨ret_int (by have := HS.out; rw [Int.sign_eq_one_of_pos (by omega)]), Below.refl _ _⟩

theorem field_groups (x y : Value) : ∀ w : World, (Instr.field 29 (.agg #[x, y]) 1).run Tryz.prog w = .ok y w := fun _ => by kernel_rfl
theorem rplus_step (xs ys out : List Nat) (k cc s c : Nat) (hk : out.length = k) (hv : val out + cc * 1000000000 ^ k = val (xs.take k) + val (ys.take k))
 (e : s + c * 1000000000 = ix xs k + ix ys k + cc) :
 val (out ++ [s]) + c * 1000000000 ^ (k + 1) = val (xs.take (k + 1)) + val (ys.take (k + 1)) := by
 rw [val_snoc, hk, val_take_succ xs, val_take_succ ys]
 have : (s + c * 1000000000) * 1000000000 ^ k = (ix xs k + ix ys k + cc) * 1000000000 ^ k := by rw [e]
 grind

set_option maxRecDepth 100000 in
set_option maxHeartbeats 1000000 in
theorem rplus_core (A D : Option Addr) (n1 n2 c1 c2 : Nat) (xs ys : List Nat) (w : World) (e1 : xs.length = n1) (e2 : ys.length = n2) (h1 : U32 w (.slice A n1 c1) xs) (h2 : U32 w (.slice D n2 c2) ys)
 (ha : AllB xs) (hb : AllB ys) (hm1 : n1 ≤ 1000000) (hm2 : n2 ≤ 1000000) :
 Calls Tryz.prog 101 #[.slice A n1 c1, .slice D n2 c2] w fun e w' => ∃ v, e = .returned v ∧ U32 w' v (dig (val xs + val ys)) ∧ Keeps w w' := by
 obtain ⟨i0, hi, hz0, hz1, hz2⟩ := info_parts info_u32
 have HE1 := Lib.hid e1
 have HE2 := Lib.hid e2
 clear e1 e2
 go_enter Tryz.func101, Tryz.ntmps101
 go_wp2
 go_loopw [5, 6, 7] (fun g c i wr => ∃ (k cc : Nat) (out : List Nat), k ≤ max n1 n2 ∧ i = .int .i64 (k : Nat) ∧ c = .int .u64 (cc : Nat) ∧ cc ≤ 1 ∧ out.length = k ∧ AllB out ∧
  val out + cc * 1000000000 ^ k = val (xs.take k) + val (ys.take k) ∧ wr.ownsRow w.heap.size 109 1 g k (u32s out) ∧ Keeps w wr)
  (fun _ _ i _ => max n1 n2 - (intOf i).toNat)
 case atStart => exact ⟨0, 0, [], by omega, rfl, rfl, by omega, rfl, AllB.nil, by simp [val], made1 w _, box2 _ _⟩
 case round =>
  obtain ⟨k, cc, out, hkN, rfl, rfl, hcc, hol, hob, hval, hown1, hk1⟩ := hrel
  have HV := Lib.hid hval
  have HL := Lib.hid hol
  clear hval hol
  have hN : max n1 n2 ≤ 1000000 := by omega
  by_cases hlt : k < max n1 n2
  ·have hx : (ix xs k : Int) < 1000000000 := by have := ha.ix k; omega
   have hy : (ix ys k : Int) < 1000000000 := by have := hb.ix k; omega
   have hcases : (k < n1) ∨ (n1 ≤ k ∧ k < n2) := by omega
   rcases hcases with hq | ⟨hq, hq2⟩
   all_goals
    go_wp2_with fail
    refine (group_any _ xs k wr (h1.below hk1) ha (by rw [HE1.out]; omega) (by omega)).mono ?_
    rintro e w1 ⟨rfl, rfl⟩
    go_wp2_with fail
    refine (group_any _ ys k wr (h2.below hk1) hb (by rw [HE2.out]; omega) (by omega)).mono ?_
    rintro e w1 ⟨rfl, rfl⟩
    go_wp2_with (at_builtin; refine wpList_append_own _ rfl _ _ 27 rfl w.heap.size 109 i0 (.int .u32 0) 1 4 Tryz.underlying27 hi hz0 hz1 hz2 rfl (by decide) _ _ _ rfl (hown1.alloc _) ⟨wr.heap.size, 0, none⟩ 1 1 [.int .u32 (((ix xs k : Nat) + (ix ys k : Nat) + (cc : Nat) : Int) % 1000000000)] rfl rfl (newcell _ _ _) (by simp [Value.oneCell']) (by simp only [maxLen]; omega) (by omega) (by have := hk1.size; simp; omega) ?_; intro v' w1 hown' hgrow _)
    rw [u32s_snoc out ((ix xs k + ix ys k + cc) % 1000000000) (by omega)] at hown'
    have hk2 : Keeps w w1 := (hk1.alloc hk1.size _).grown hgrow (by have := hk1.size; simp; omega) (fun b e => (hown1.lt b e).1)
    go_roundw
    case rel => exact ⟨k + 1, (ix xs k + ix ys k + cc) / 1000000000, out ++ [(ix xs k + ix ys k + cc) % 1000000000], by omega, by go_num, by congr 1 <;> omega, by have := ha.ix k; have := hb.ix k; omega, by simp [HL.out],
     hob.append (AllB.single (by omega)), rplus_step xs ys out k cc _ _ HL.out HV.out (by omega), hown', hk2⟩
    case measure => simp [intOf]; omega
  ·obtain ⟨K, hK⟩ : ∃ K, K = k := ⟨_, rfl⟩
   have hq1 : n1 ≤ k := by omega
   have hq2 : n2 ≤ k := by omega
   clear hK
   have hccI : (cc : Int) ≤ 1 := by omega
   have hfin : val (out ++ [cc]) = val xs + val ys := by
    have := HV.out
    rw [List.take_of_length_le (by rw [HE1.out]; exact hq1), List.take_of_length_le (by rw [HE2.out]; exact hq2)] at this
    rw [val_snoc, HL.out]; exact this
   have HF := Lib.hid hfin
   clear hfin
   go_wp2_with (at_builtin; refine wpList_append_own _ rfl _ _ 27 rfl w.heap.size 109 i0 (.int .u32 0) 1 4 Tryz.underlying27 hi hz0 hz1 hz2 rfl (by decide) _ _ _ rfl (hown1.alloc _) ⟨wr.heap.size, 0, none⟩ 1 1 [.int .u32 (cc : Nat)] rfl rfl (newcell _ _ _) (by simp [Value.oneCell']) (by simp only [maxLen]; omega) (by omega) (by have := hk1.size; simp; omega) ?_; intro v' w1 hown' hgrow _)
   rw [u32s_snoc out cc rfl] at hown'
   have hk2 : Keeps w w1 := (hk1.alloc hk1.size _).grown hgrow (by have := hk1.size; simp; omega) (fun b e => (hown1.lt b e).1)
   refine (rmade_u false v' _ _ (U32.of_own hown') (hob.append (AllB.single (by omega))) (by simp [HL.out]; omega)).mono ?_
   rintro e w3 ⟨V3, rfl, hr3, hk3⟩
   obtain ⟨A3, n3, c3, rfl, hv3⟩ := hr3.open_
   have hfd := field_groups (.bool (decide (sgn false (val (out ++ [cc])) < 0))) (.slice A3 n3 c3)
   go_wp2
   go_ret
   refine ⟨_, rfl, ?_, hk2.trans' hk3⟩
   rw [sgn_natAbs, HF.out] at hv3
   exact hv3
theorem rminus_step (xs ys out : List Nat) (k cc s c : Nat) (hk : out.length = k) (hv : val out + val (ys.take k) = val (xs.take k) + cc * 1000000000 ^ k)
 (e : s + ix ys k + cc = ix xs k + c * 1000000000) :
 val (out ++ [s]) + val (ys.take (k + 1)) = val (xs.take (k + 1)) + c * 1000000000 ^ (k + 1) := by
 rw [val_snoc, hk, val_take_succ xs, val_take_succ ys]
 have : (s + ix ys k + cc) * 1000000000 ^ k = (ix xs k + c * 1000000000) * 1000000000 ^ k := by rw [e]
 grind

set_option maxRecDepth 100000 in
set_option maxHeartbeats 1000000 in
theorem rminus_core (A D : Option Addr) (n1 n2 c1 c2 : Nat) (xs ys : List Nat) (w : World) (e1 : xs.length = n1) (e2 : ys.length = n2) (h1 : U32 w (.slice A n1 c1) xs) (h2 : U32 w (.slice D n2 c2) ys)
 (ha : AllB xs) (hb : AllB ys) (hm1 : n1 ≤ 1000000) (hl : n2 ≤ n1) (hle : val ys ≤ val xs) :
 Calls Tryz.prog 103 #[.slice A n1 c1, .slice D n2 c2] w fun e w' => ∃ v, e = .returned v ∧ U32 w' v (dig (val xs - val ys)) ∧ Keeps w w' := by
 obtain ⟨i0, hi, hz0, hz1, hz2⟩ := info_parts info_u32
 have HE1 := Lib.hid e1
 have HE2 := Lib.hid e2
 have HLE := Lib.hid hle
 clear e1 e2 hle
 go_enter Tryz.func103, Tryz.ntmps103
 go_wp2
 go_loopw [5, 6, 7] (fun g c i wr => ∃ (k cc : Nat) (out : List Nat), k ≤ n1 ∧ i = .int .i64 (k : Nat) ∧ c = .int .u64 (cc : Nat) ∧ cc ≤ 1 ∧ out.length = k ∧ AllB out ∧
  val out + val (ys.take k) = val (xs.take k) + cc * 1000000000 ^ k ∧ wr.ownsRow w.heap.size 109 1 g k (u32s out) ∧ Keeps w wr)
  (fun _ _ i _ => n1 - (intOf i).toNat)
 case atStart => exact ⟨0, 0, [], by omega, rfl, rfl, by omega, rfl, AllB.nil, by simp [val], made1 w _, box2 _ _⟩
 case round =>
  obtain ⟨k, cc, out, hkN, rfl, rfl, hcc, hol, hob, hval, hown1, hk1⟩ := hrel
  have HV := Lib.hid hval
  have HL := Lib.hid hol
  clear hval hol
  by_cases hlt : k < n1
  ·have hx : (ix xs k : Int) < 1000000000 := by have := ha.ix k; omega
   have hy : (ix ys k : Int) < 1000000000 := by have := hb.ix k; omega
   go_wp2_with fail
   refine (group_any _ xs k wr (h1.below hk1) ha (by rw [HE1.out]; omega) (by omega)).mono ?_
   rintro e w1 ⟨rfl, rfl⟩
   go_wp2_with fail
   refine (group_any _ ys k wr (h2.below hk1) hb (by rw [HE2.out]; omega) (by omega)).mono ?_
   rintro e w1 ⟨rfl, rfl⟩
   go_wp2_with (at_builtin; refine wpList_append_own _ rfl _ _ 27 rfl w.heap.size 109 i0 (.int .u32 0) 1 4 Tryz.underlying27 hi hz0 hz1 hz2 rfl (by decide) _ _ _ rfl (hown1.alloc _) ⟨wr.heap.size, 0, none⟩ 1 1 [.int .u32 ((1000000000 + (ix xs k : Nat) - (ix ys k : Nat) - (cc : Nat) : Int) % 1000000000)] rfl rfl (newcell _ _ _) (by simp [Value.oneCell']) (by simp only [maxLen]; omega) (by omega) (by have := hk1.size; simp; omega) ?_; intro v' w1 hown' hgrow _)
   rw [u32s_snoc out ((1000000000 + ix xs k - ix ys k - cc) % 1000000000) (by omega)] at hown'
   have hk2 : Keeps w w1 := (hk1.alloc hk1.size _).grown hgrow (by have := hk1.size; simp; omega) (fun b e => (hown1.lt b e).1)
   go_roundw
   case rel => exact ⟨k + 1, 1 - (1000000000 + ix xs k - ix ys k - cc) / 1000000000, out ++ [(1000000000 + ix xs k - ix ys k - cc) % 1000000000], by omega, by go_num, by congr 1 <;> omega, by omega, by simp [HL.out],
    hob.append (AllB.single (by omega)), rminus_step xs ys out k cc _ _ HL.out HV.out (by have := ha.ix k; have := hb.ix k; omega), hown', hk2⟩
   case measure => simp [intOf]; omega
  ·obtain rfl : k = n1 := by omega
   have hfin : val out = val xs - val ys := by
    have hv := HV.out
    rw [List.take_of_length_le (by rw [HE2.out]; exact hl), List.take_of_length_le (by rw [HE1.out]; exact Nat.le_refl _)] at hv
    have a := val_lt hob
    have b := val_lt ha
    rw [HL.out] at a
    rw [HE1.out] at b
    have := HLE.out
    have : cc = 0 ∨ cc = 1 := by omega
    rcases this with rfl | rfl <;> omega
   have HF := Lib.hid hfin
   clear hfin
   go_wp2_with fail
   refine (rmade_u false u5 out _ (U32.of_own hown1) hob (by rw [HL.out]; omega)).mono ?_
   rintro e w3 ⟨V3, rfl, hr3, hk3⟩
   obtain ⟨A3, n3, c3, rfl, hv3⟩ := hr3.open_
   have hfd := field_groups (.bool (decide (sgn false (val out) < 0))) (.slice A3 n3 c3)
   go_wp2
   go_ret
   refine ⟨_, rfl, ?_, hk1.trans' hk3⟩
   rw [sgn_natAbs, HF.out] at hv3
   exact hv3

theorem rplus_d (v1 v2 : Value) (a b : Nat) (w : World) (h1 : U32 w v1 (dig a)) (h2 : U32 w v2 (dig b)) (hm1 : (dig a).length ≤ 1000000) (hm2 : (dig b).length ≤ 1000000) :
 Calls Tryz.prog 101 #[v1, v2] w fun e w' => ∃ v, e = .returned v ∧ U32 w' v (dig (a + b)) ∧ Keeps w w' := by
 obtain ⟨A, n, c, rfl, e1, -⟩ := h1.open_
 obtain ⟨D, m, d, rfl, e2, -⟩ := h2.open_
 have := rplus_core A D n m c d _ _ w e1 e2 h1 h2 (AllB.dig a) (AllB.dig b) (by omega) (by omega)
 rwa [val_dig, val_dig] at this
theorem rminus_d (v1 v2 : Value) (a b : Nat) (w : World) (h1 : U32 w v1 (dig a)) (h2 : U32 w v2 (dig b)) (hm1 : (dig a).length ≤ 1000000) (hle : b ≤ a) :
 Calls Tryz.prog 103 #[v1, v2] w fun e w' => ∃ v, e = .returned v ∧ U32 w' v (dig (a - b)) ∧ Keeps w w' := by
 obtain ⟨A, n, c, rfl, e1, -⟩ := h1.open_
 obtain ⟨D, m, d, rfl, e2, -⟩ := h2.open_
 have := rminus_core A D n m c d _ _ w e1 e2 h1 h2 (AllB.dig a) (AllB.dig b) (by omega) (by have := dig_length_mono hle; omega) (by rw [val_dig, val_dig]; exact hle)
 rwa [val_dig, val_dig] at this
theorem rmade_d (neg : Bool) (v : Value) (m : Nat) (w : World) (h : U32 w v (dig m)) (hm : (dig m).length ≤ 4000000) :
 Calls Tryz.prog 100 #[.bool neg, v] w fun e w' => ∃ V, e = .returned V ∧ IntRep w' V (sgn neg m) ∧ Keeps w w' := by
 have := rmade_u neg v (dig m) w h (AllB.dig m) hm
 rwa [val_dig] at this

theorem sgn_of_rep (z : Int) : sgn (decide (z < 0)) z.natAbs = z := by
 by_cases h : z < 0
 ·rw [decide_eq_true h]; simp [sgn]; omega
 ·rw [decide_eq_false h]; simp [sgn]; omega

theorem IntRep.arg {w : World} {V : Value} {z : Int} (h : IntRep w V z) : IntArg w V (decide (z < 0)) (dig z.natAbs) := h
theorem validB_rep (z : Int) : validB (decide (z < 0)) (dig z.natAbs) = true := by
 unfold validB
 by_cases h0 : z.natAbs = 0
 ·rw [if_pos (by rw [h0, dig_zero]; rfl)]
  simp; omega
 ·rw [if_neg (by rw [dig_length_zero]; exact h0), Bool.and_eq_true]
  refine ⟨by simpa using dig_last h0, ?_⟩
  rw [List.all_eq_true]
  intro x hx
  have := AllB.dig z.natAbs x hx
  simpa using this
theorem cnt_rep (z : Int) : cnt (decide (z < 0)) (dig z.natAbs) = z := by
 unfold cnt mag
 rw [if_pos (validB_rep z), val_dig]
 exact sgn_of_rep z

set_option maxRecDepth 100000 in
set_option maxHeartbeats 400000 in
theorem rsign_any (neg : Bool) (xs : List Nat) (V : Value) (w : World) (h : IntArg w V neg xs) (hm : xs.length ≤ 1000000) :
 Calls Tryz.prog 65 #[V] w fun e w' => e = .returned (.int .i64 (cnt neg xs).sign) ∧ Keeps w w' := by
 obtain ⟨v, rfl, hv⟩ := h
 have hkk := box2 w (.cells #[.bool neg, v] 29)
 have hB := Own.new w 29 [.bool neg, v]
 have hG := Lib.hid (rvalue_any neg xs (.agg #[.bool neg, v]) _ ⟨v, rfl, hv.below hkk⟩ hm)
 generalize cnt neg xs = z at hG ⊢
 go_enter Tryz.func65, Tryz.ntmps65
 go_wp2_with fail
 refine hG.out.mono ?_
 rintro e w1 ⟨V3, rfl, hr3, hk1⟩
 obtain ⟨A3, n3, c3, rfl, hv3⟩ := hr3.open_
 obtain ⟨A', n', c', e', e1, -⟩ := hv3.open_
 cases e'
 have hB1 := hB.below hk1
 have r0 := hB1.c0
 have r1 := hB1.c1
 have f0 := hB1.frozen 0
 have f1 := hB1.frozen 1
 have hk := hkk.trans' hk1
 have hB2 := hB1.two (.bool (decide (z < 0))) (.slice A3 n3 c3)
 have s0 := hB2.c0
 have s1 := hB2.c1
 rcases Int.lt_trichotomy z 0 with hz | hz | hz
 ·have hd : decide (z < 0) = true := decide_eq_true hz
  have hn : ((n3 : Int) == 0) = false := by have := dig_length_pos.2 (show z.natAbs ≠ 0 by omega); simp; omega
  have HZ := Lib.hid hz
  rw [hd] at *
  clear hz e1 hd
  go_wp2
  go_ret
  exact ⟨ret_int (by rw [Int.sign_eq_neg_one_of_neg HZ.out]), (hk.set (by simp) _).set (by simp) _⟩
 ·have hd : decide (z < 0) = false := decide_eq_false (by omega)
  have hn : ((n3 : Int) == 0) = true := by rw [hz] at e1; simp [dig_zero] at e1; simp; omega
  have HZ := Lib.hid hz
  rw [hd] at *
  clear hz e1 hd
  go_wp2
  go_ret
  exact ⟨ret_int (by rw [HZ.out]; rfl), (hk.set (by simp) _).set (by simp) _⟩
 ·have hd : decide (z < 0) = false := decide_eq_false (by omega)
  have hn : ((n3 : Int) == 0) = false := by have := dig_length_pos.2 (show z.natAbs ≠ 0 by omega); simp; omega
  have HZ := Lib.hid hz
  rw [hd] at *
  clear hz e1 hd
  go_wp2
  go_ret
  exact ⟨ret_int (by rw [Int.sign_eq_one_of_pos HZ.out]), (hk.set (by simp) _).set (by simp) _⟩
set_option maxRecDepth 100000 in
set_option maxHeartbeats 400000 in
theorem rneg_any (neg : Bool) (xs : List Nat) (V : Value) (w : World) (h : IntArg w V neg xs) (hm : xs.length ≤ 1000000) :
 Calls Tryz.prog 97 #[V] w fun e w' => ∃ V, e = .returned V ∧ IntRep w' V (-cnt neg xs) ∧ Keeps w w' := by
 obtain ⟨v, rfl, hv⟩ := h
 have hml := mag_length neg xs
 rw [← cnt_abs] at hml
 have hkk := keep2 w (.cells #[.bool neg, v] 29) (.cells #[.bool false, .slice none 0 0] 29)
 have hB := (Own.new w 29 [.bool neg, v]).alloc (.cells #[.bool false, .slice none 0 0] 29)
 have hR := own2 w (.cells #[.bool neg, v] 29) 29 [.bool false, .slice none 0 0]
 have hG := Lib.hid (rvalue_any neg xs (.agg #[.bool neg, v]) _ ⟨v, rfl, hv.below hkk⟩ hm)
 generalize cnt neg xs = z at hG hml ⊢
 go_enter Tryz.func97, Tryz.ntmps97
 go_wp2_with fail
 refine hG.out.mono ?_
 rintro e w1 ⟨V3, rfl, hr3, hk1⟩
 obtain ⟨A3, n3, c3, rfl, hv3⟩ := hr3.open_
 have hB1 := hB.below hk1
 have hR1 := hR.below hk1
 have r0 := hB1.c0
 have r1 := hB1.c1
 have f0 := hB1.frozen 0
 have f1 := hB1.frozen 1
 have hk := hkk.trans' hk1
 have hB2 := hB1.two (.bool (decide (z < 0))) (.slice A3 n3 c3)
 have hR2 := hR1.far2 (R := w.heap.size) (by omega) (x := .bool (decide (z < 0))) (y := .slice A3 n3 c3)
 have s0 := hB2.c0
 have s1 := hB2.c1
 have hkm := ((hk.set (p := ⟨w.heap.size, 0, none⟩) (by simp) (.bool (decide (z < 0)))).set (p := ⟨w.heap.size, 1, none⟩) (by simp) (.slice A3 n3 c3))
 have hv4 : U32 ((w1.setCell ⟨w.heap.size, 0, none⟩ (.bool (decide (z < 0)))).setCell ⟨w.heap.size, 1, none⟩ (.slice A3 n3 c3)) (.slice A3 n3 c3) (dig z.natAbs) := by
  obtain ⟨v', e', h'⟩ := hr3.two (R := w.heap.size) (x' := .bool (decide (z < 0))) (y' := .slice A3 n3 c3) hB1 rfl (by obtain ⟨A', n', c', rfl, -⟩ := hv.open_; rfl) rfl
  cases e'
  exact h'
 go_wp2_with fail
 refine (rmade_d (!(decide (z < 0))) _ _ _ hv4 (by omega)).mono ?_
 rintro e w5 ⟨V5, rfl, hr5, hk5⟩
 obtain ⟨A5, n5, c5, rfl, hv5⟩ := hr5.open_
 have hR5 := hR2.below hk5
 have hk6 := Keeps.trans' hkm hk5
 have t0 := hR5.c0
 have t1 := hR5.c1
 have g0 := hR5.frozen 0
 have g1 := hR5.frozen 1
 obtain ⟨y, hy⟩ : ∃ y, sgn (!decide (z < 0)) z.natAbs = y := ⟨_, rfl⟩
 rw [hy] at hr5 hv5
 simp only [hy]
 have HY := Lib.hid hy
 clear hy
 go_wp2
 have hR6 := hR5.two (.bool (decide (y < 0))) (.slice A5 n5 c5)
 refine bodyPost_ret (v := .agg #[.bool (decide (y < 0)), .slice A5 n5 c5]) (by simp [results, Tryz.results97, go_sem, hR6.c0, hR6.c1]) rfl ?_
 refine ⟨_, rfl, ?_, (hk6.set (by simp) _).set (by simp) _⟩
 rw [show -z = y by rw [← HY.out, sgn_neg, sgn_of_rep]]
 exact hr5.two hR5 rfl rfl rfl

end Go.Proofs.YtgcigdahjabimaaGreatDoor
