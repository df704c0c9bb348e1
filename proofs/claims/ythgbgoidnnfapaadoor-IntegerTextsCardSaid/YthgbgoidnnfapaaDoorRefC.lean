/- The walks of the reference's size, plus, minus. -/
import Derived.Test.YthgbgoidnnfapaaDoorRefB
namespace Go.Proofs.YthgbgoidnnfapaaDoor
open Go.RowKit Go.Shelf

set_option maxRecDepth 100000 in
set_option maxHeartbeats 400000 in
theorem size_any (v1 v2 : Value) (a b : Nat) (w : World) (h1 : U32 w v1 (dig a)) (h2 : U32 w v2 (dig b)) (hm1 : (dig a).length ≤ 1000000) (hm2 : (dig b).length ≤ 1000000) :
    Calls Tryd.prog 59 #[v1, v2] w fun e w' => e = .returned (.int .i64 ((a : Int) - b).sign) ∧ Keeps w w' := by
  obtain ⟨A, n, c, rfl, e1, -, -, -, r1⟩ := h1.open_
  obtain ⟨D, m, d, rfl, e2, -, -, -, r2⟩ := h2.open_
  have hn1 : n ≤ 1000000 := by omega
  have hn2 : m ≤ 1000000 := by omega
  have HE1 := Lib.hid e1
  have HE2 := Lib.hid e2
  clear e1 e2 hm1 hm2 h1 h2
  by_cases hl : n = m
  · subst hl
    have hnn : ((n : Int) != n) = false := by simp
    go_enter Tryd.func59, Tryd.ntmps59
    go_wp2
    go_loopw [5] (fun i wr => ∃ k : Nat, k ≤ n ∧ i = .int .i64 ((n : Int) - 1 - (k : Nat)) ∧ (dig a).drop (n - k) = (dig b).drop (n - k) ∧ Keeps w wr) (fun i _ => (intOf i + 1).toNat)
    case atStart => exact ⟨0, by omega, by go_num, by rw [List.drop_of_length_le (by rw [HE1.out]; omega), List.drop_of_length_le (by rw [HE2.out]; omega)], Below.refl _ _⟩
    case round =>
      obtain ⟨k, hk, rfl, hd, hkr⟩ := hrel
      by_cases hlt : k < n
      · have e : (n : Int) - 1 - (k : Int) = ((n - 1 - k : Nat) : Int) := by omega
        rw [e]
        clear e
        obtain ⟨q, hq⟩ : ∃ q, n - 1 - k = q := ⟨_, rfl⟩
        rw [show n - k = q + 1 by omega] at hd
        rw [hq]
        have hqn : q < n := by omega
        have h00 : (0 : Int) ≤ (q : Int) := by omega
        have h01 : (q : Int) < (n : Int) := by omega
        have HD := Lib.hid hd
        have HQ := Lib.hid hq
        clear hd hq
        obtain ⟨b1, o1, rfl, hb1, hcell⟩ := (r1.below hkr) (by omega)
        obtain ⟨b2, o2, rfl, hb2, hcell2⟩ := (r2.below hkr) (by omega)
        have hx : wr.cell? ⟨b1, o1 + q, none⟩ = some (.int .u32 (ix (dig a) q : Nat)) := hcell q hqn
        have hy : wr.cell? ⟨b2, o2 + q, none⟩ = some (.int .u32 (ix (dig b) q : Nat)) := hcell2 q hqn
        clear hcell hcell2
        have hcmp := dig_cmp_at a b q (HE1.out.trans HE2.out.symm) (by rw [HE1.out]; exact hqn) HD.out
        have HC := Lib.hid hcmp
        clear hcmp
        rcases Nat.lt_trichotomy (ix (dig a) q) (ix (dig b) q) with hs | hs | hs
        · have b1 : decide (ix (dig a) q < ix (dig b) q) = true := decide_eq_true (by omega)
          have HS := Lib.hid hs
          clear hs
          go_wp2
          go_quiet (fail)
          go_wp2
          go_ret
          exact ⟨ret_int (by have := HS.out; rw [HC.out (by omega), Int.sign_eq_neg_one_of_neg (by omega)]), below_drewN hkr _⟩
        · have b1 : decide (ix (dig a) q < ix (dig b) q) = false := decide_eq_false (by omega)
          have b2 : decide (ix (dig b) q < ix (dig a) q) = false := decide_eq_false (by omega)
          have HS := Lib.hid hs
          clear hs
          go_wp2
          go_quiet (fail)
          go_wp2
          go_quiet (fail)
          go_wp2
          go_roundw
          case rel => exact ⟨k + 1, by omega, by have := HQ.out; congr 1; omega, by rw [show n - (k + 1) = q by have := HQ.out; omega, drop_cons (dig a) q (by rw [HE1.out]; exact hqn), drop_cons (dig b) q (by rw [HE2.out]; exact hqn), HS.out, HD.out], below_drewN hkr _⟩
          case measure => have := HQ.out; simp [intOf]
        · have b1 : decide (ix (dig a) q < ix (dig b) q) = false := decide_eq_false (by omega)
          have b2 : decide (ix (dig b) q < ix (dig a) q) = true := decide_eq_true (by omega)
          have HS := Lib.hid hs
          clear hs
          go_wp2
          go_quiet (fail)
          go_wp2
          go_quiet (fail)
          go_wp2
          go_ret
          exact ⟨ret_int (by have := HS.out; rw [HC.out (by omega), Int.sign_eq_one_of_pos (by omega)]), below_drewN (below_drewN hkr _) _⟩
      · obtain rfl : k = n := by omega
        rw [Nat.sub_self, List.drop_zero, List.drop_zero] at hd
        have he := Lib.hid (dig_inj hd)
        clear hd
        go_wp2
        go_ret
        exact ⟨ret_int (by rw [he.out]; simp), hkr⟩
  · have hnn : ((n : Int) != m) = true := by rw [bne_iff_ne]; omega
    rcases Nat.lt_or_gt_of_ne hl with hs | hs
    · have := dig_lt_of_length (a := a) (b := b) (by rw [HE1.out, HE2.out]; exact hs)
      have HS := Lib.hid this
      clear this
      go_enter Tryd.func59, Tryd.ntmps59
      go_wp2
      go_ret
      exact ⟨ret_int (by have := HS.out; rw [Int.sign_eq_neg_one_of_neg (by omega)]), Below.refl _ _⟩
    · have := dig_lt_of_length (a := b) (b := a) (by rw [HE1.out, HE2.out]; exact hs)
      have HS := Lib.hid this
      clear this
      go_enter Tryd.func59, Tryd.ntmps59
      go_wp2
      go_ret
      exact ⟨ret_int (by have := HS.out; rw [Int.sign_eq_one_of_pos (by omega)]), Below.refl _ _⟩

theorem field_groups (x y : Value) : ∀ w : World, (Instr.field 24 (.agg #[x, y]) 1).run Tryd.prog w = .ok y w := fun _ => by kernel_rfl
/-- what the reference's loops leave: a row of the call's own -/
theorem rplus_step (xs ys out : List Nat) (k cc s c : Nat) (hk : out.length = k) (hv : val out + cc * 1000000000 ^ k = val (xs.take k) + val (ys.take k))
    (e : s + c * 1000000000 = ix xs k + ix ys k + cc) :
    val (out ++ [s]) + c * 1000000000 ^ (k + 1) = val (xs.take (k + 1)) + val (ys.take (k + 1)) := by
  rw [val_snoc, hk, val_take_succ xs, val_take_succ ys]
  have : (s + c * 1000000000) * 1000000000 ^ k = (ix xs k + ix ys k + cc) * 1000000000 ^ k := by rw [e]
  grind

set_option maxRecDepth 100000 in
set_option maxHeartbeats 1000000 in
theorem rplus_core (A D : Option Addr) (n1 n2 c1 c2 : Nat) (xs ys : List Nat) (w : World) (e1 : xs.length = n1) (e2 : ys.length = n2) (h1 : U32 w (.slice A n1 c1) xs) (h2 : U32 w (.slice D n2 c2) ys)
    (ha : AllB xs) (hb : AllB ys) (hm1 : n1 ≤ 1000000) (hm2 : n2 ≤ 1000000) :
    Calls Tryd.prog 58 #[.slice A n1 c1, .slice D n2 c2] w fun e w' => ∃ v, e = .returned v ∧ U32 w' v (dig (val xs + val ys)) ∧ Keeps w w' := by
  obtain ⟨i0, hi, hz0, hz1, hz2⟩ := info_parts info_u32
  have HE1 := Lib.hid e1
  have HE2 := Lib.hid e2
  clear e1 e2
  go_enter Tryd.func58, Tryd.ntmps58
  go_wp2
  go_loopw [5, 6, 7] (fun g c i wr => ∃ (k cc : Nat) (out : List Nat), k ≤ max n1 n2 ∧ i = .int .i64 (k : Nat) ∧ c = .int .u64 (cc : Nat) ∧ cc ≤ 1 ∧ out.length = k ∧ AllB out ∧
      val out + cc * 1000000000 ^ k = val (xs.take k) + val (ys.take k) ∧ wr.ownsRow w.heap.size 48 1 g k (u32s out) ∧ Keeps w wr)
    (fun _ _ i _ => max n1 n2 - (intOf i).toNat)
  case atStart => exact ⟨0, 0, [], by omega, rfl, rfl, by omega, rfl, AllB.nil, by simp [val], made1 w _, box2 _ _⟩
  case round =>
    obtain ⟨k, cc, out, hkN, rfl, rfl, hcc, hol, hob, hval, hown1, hk1⟩ := hrel
    have HV := Lib.hid hval
    have HL := Lib.hid hol
    clear hval hol
    have hN : max n1 n2 ≤ 1000000 := by omega
    by_cases hlt : k < max n1 n2
    · have hx : (ix xs k : Int) < 1000000000 := by have := ha.ix k; omega
      have hy : (ix ys k : Int) < 1000000000 := by have := hb.ix k; omega
      have hcases : (k < n1) ∨ (n1 ≤ k ∧ k < n2) := by omega
      rcases hcases with hq | ⟨hq, hq2⟩
      all_goals
        go_wp2_with fail
        refine (group_any _ xs k wr (h1.below hk1) ha (by rw [HE1.out]; omega) (by omega)).mono ?_
        rintro e w1 ⟨rfl, rfl⟩
        go_wp2_with fail
        refine (group_any _ ys k wr (h2.below hk1) hb (by rw [HE2.out]; omega) (by omega)).mono ?_
        rintro e w1 ⟨rfl, rfl⟩
        go_wp2_with (at_builtin; refine wpList_append_own _ rfl _ _ 22 rfl w.heap.size 48 i0 (.int .u32 0) 1 4 Tryd.underlying22 hi hz0 hz1 hz2 rfl (by decide) _ _ _ rfl (hown1.alloc _) ⟨wr.heap.size, 0, none⟩ 1 1 [.int .u32 (((ix xs k : Nat) + (ix ys k : Nat) + (cc : Nat) : Int) % 1000000000)] rfl rfl (newcell _ _ _) (by simp [Value.oneCell']) (by simp only [maxLen]; omega) (by omega) (by have := hk1.size; simp; omega) ?_; intro v' w1 hown' hgrow _)
        rw [u32s_snoc out ((ix xs k + ix ys k + cc) % 1000000000) (by omega)] at hown'
        have hk2 : Keeps w w1 := (hk1.alloc hk1.size _).grown hgrow (by have := hk1.size; simp; omega) (fun b e => (hown1.lt b e).1)
        go_roundw
        case rel => exact ⟨k + 1, (ix xs k + ix ys k + cc) / 1000000000, out ++ [(ix xs k + ix ys k + cc) % 1000000000], by omega, by go_num, by congr 1 <;> omega, by have := ha.ix k; have := hb.ix k; omega, by simp [HL.out],
          hob.append (AllB.single (by omega)), rplus_step xs ys out k cc _ _ HL.out HV.out (by omega), hown', hk2⟩
        case measure => simp [intOf]; omega
    · obtain ⟨K, hK⟩ : ∃ K, K = k := ⟨_, rfl⟩
      have hq1 : n1 ≤ k := by omega
      have hq2 : n2 ≤ k := by omega
      clear hK
      have hccI : (cc : Int) ≤ 1 := by omega
      have hfin : val (out ++ [cc]) = val xs + val ys := by
        have := HV.out
        rw [List.take_of_length_le (by rw [HE1.out]; exact hq1), List.take_of_length_le (by rw [HE2.out]; exact hq2)] at this
        rw [val_snoc, HL.out]; exact this
      have HF := Lib.hid hfin
      clear hfin
      go_wp2_with (at_builtin; refine wpList_append_own _ rfl _ _ 22 rfl w.heap.size 48 i0 (.int .u32 0) 1 4 Tryd.underlying22 hi hz0 hz1 hz2 rfl (by decide) _ _ _ rfl (hown1.alloc _) ⟨wr.heap.size, 0, none⟩ 1 1 [.int .u32 (cc : Nat)] rfl rfl (newcell _ _ _) (by simp [Value.oneCell']) (by simp only [maxLen]; omega) (by omega) (by have := hk1.size; simp; omega) ?_; intro v' w1 hown' hgrow _)
      rw [u32s_snoc out cc rfl] at hown'
      have hk2 : Keeps w w1 := (hk1.alloc hk1.size _).grown hgrow (by have := hk1.size; simp; omega) (fun b e => (hown1.lt b e).1)
      refine (rmade_u false v' _ _ (U32.of_own hown') (hob.append (AllB.single (by omega))) (by simp [HL.out]; omega)).mono ?_
      rintro e w3 ⟨V3, rfl, hr3, hk3⟩
      obtain ⟨A3, n3, c3, rfl, hv3⟩ := hr3.open_
      have hfd := field_groups (.bool (decide (sgn false (val (out ++ [cc])) < 0))) (.slice A3 n3 c3)
      go_wp2
      go_ret
      refine ⟨_, rfl, ?_, hk2.trans' hk3⟩
      rw [sgn_natAbs, HF.out] at hv3
      exact hv3
end Go.Proofs.YthgbgoidnnfapaaDoor
