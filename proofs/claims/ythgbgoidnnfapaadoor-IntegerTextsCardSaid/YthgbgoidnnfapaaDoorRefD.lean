/- The walks of the reference's minus, Sign, Neg, Abs, Of. -/
import Derived.Test.YthgbgoidnnfapaaDoorRefC
namespace Go.Proofs.YthgbgoidnnfapaaDoor
open Go.RowKit Go.Shelf

theorem rminus_step (xs ys out : List Nat) (k cc s c : Nat) (hk : out.length = k) (hv : val out + val (ys.take k) = val (xs.take k) + cc * 1000000000 ^ k)
    (e : s + ix ys k + cc = ix xs k + c * 1000000000) :
    val (out ++ [s]) + val (ys.take (k + 1)) = val (xs.take (k + 1)) + c * 1000000000 ^ (k + 1) := by
  rw [val_snoc, hk, val_take_succ xs, val_take_succ ys]
  have : (s + ix ys k + cc) * 1000000000 ^ k = (ix xs k + c * 1000000000) * 1000000000 ^ k := by rw [e]
  grind

set_option maxRecDepth 100000 in
set_option maxHeartbeats 1000000 in
theorem rminus_core (A D : Option Addr) (n1 n2 c1 c2 : Nat) (xs ys : List Nat) (w : World) (e1 : xs.length = n1) (e2 : ys.length = n2) (h1 : U32 w (.slice A n1 c1) xs) (h2 : U32 w (.slice D n2 c2) ys)
    (ha : AllB xs) (hb : AllB ys) (hm1 : n1 ≤ 1000000) (hl : n2 ≤ n1) (hle : val ys ≤ val xs) :
    Calls Tryd.prog 60 #[.slice A n1 c1, .slice D n2 c2] w fun e w' => ∃ v, e = .returned v ∧ U32 w' v (dig (val xs - val ys)) ∧ Keeps w w' := by
  obtain ⟨i0, hi, hz0, hz1, hz2⟩ := info_parts info_u32
  have HE1 := Lib.hid e1
  have HE2 := Lib.hid e2
  have HLE := Lib.hid hle
  clear e1 e2 hle
  go_enter Tryd.func60, Tryd.ntmps60
  go_wp2
  go_loopw [5, 6, 7] (fun g c i wr => ∃ (k cc : Nat) (out : List Nat), k ≤ n1 ∧ i = .int .i64 (k : Nat) ∧ c = .int .u64 (cc : Nat) ∧ cc ≤ 1 ∧ out.length = k ∧ AllB out ∧
      val out + val (ys.take k) = val (xs.take k) + cc * 1000000000 ^ k ∧ wr.ownsRow w.heap.size 48 1 g k (u32s out) ∧ Keeps w wr)
    (fun _ _ i _ => n1 - (intOf i).toNat)
  case atStart => exact ⟨0, 0, [], by omega, rfl, rfl, by omega, rfl, AllB.nil, by simp [val], made1 w _, box2 _ _⟩
  case round =>
    obtain ⟨k, cc, out, hkN, rfl, rfl, hcc, hol, hob, hval, hown1, hk1⟩ := hrel
    have HV := Lib.hid hval
    have HL := Lib.hid hol
    clear hval hol
    by_cases hlt : k < n1
    · have hx : (ix xs k : Int) < 1000000000 := by have := ha.ix k; omega
      have hy : (ix ys k : Int) < 1000000000 := by have := hb.ix k; omega
      go_wp2_with fail
      refine (group_any _ xs k wr (h1.below hk1) ha (by rw [HE1.out]; omega) (by omega)).mono ?_
      rintro e w1 ⟨rfl, rfl⟩
      go_wp2_with fail
      refine (group_any _ ys k wr (h2.below hk1) hb (by rw [HE2.out]; omega) (by omega)).mono ?_
      rintro e w1 ⟨rfl, rfl⟩
      go_wp2_with (at_builtin; refine wpList_append_own _ rfl _ _ 22 rfl w.heap.size 48 i0 (.int .u32 0) 1 4 Tryd.underlying22 hi hz0 hz1 hz2 rfl (by decide) _ _ _ rfl (hown1.alloc _) ⟨wr.heap.size, 0, none⟩ 1 1 [.int .u32 ((1000000000 + (ix xs k : Nat) - (ix ys k : Nat) - (cc : Nat) : Int) % 1000000000)] rfl rfl (newcell _ _ _) (by simp [Value.oneCell']) (by simp only [maxLen]; omega) (by omega) (by have := hk1.size; simp; omega) ?_; intro v' w1 hown' hgrow _)
      rw [u32s_snoc out ((1000000000 + ix xs k - ix ys k - cc) % 1000000000) (by omega)] at hown'
      have hk2 : Keeps w w1 := (hk1.alloc hk1.size _).grown hgrow (by have := hk1.size; simp; omega) (fun b e => (hown1.lt b e).1)
      go_roundw
      case rel => exact ⟨k + 1, 1 - (1000000000 + ix xs k - ix ys k - cc) / 1000000000, out ++ [(1000000000 + ix xs k - ix ys k - cc) % 1000000000], by omega, by go_num, by congr 1 <;> omega, by omega, by simp [HL.out],
        hob.append (AllB.single (by omega)), rminus_step xs ys out k cc _ _ HL.out HV.out (by have := ha.ix k; have := hb.ix k; omega), hown', hk2⟩
      case measure => simp [intOf]; omega
    · obtain rfl : k = n1 := by omega
      have hfin : val out = val xs - val ys := by
        have hv := HV.out
        rw [List.take_of_length_le (by rw [HE2.out]; exact hl), List.take_of_length_le (by rw [HE1.out]; exact Nat.le_refl _)] at hv
        have a := val_lt hob
        have b := val_lt ha
        rw [HL.out] at a
        rw [HE1.out] at b
        have := HLE.out
        have : cc = 0 ∨ cc = 1 := by omega
        rcases this with rfl | rfl <;> omega
      have HF := Lib.hid hfin
      clear hfin
      go_wp2_with fail
      refine (rmade_u false u5 out _ (U32.of_own hown1) hob (by rw [HL.out]; omega)).mono ?_
      rintro e w3 ⟨V3, rfl, hr3, hk3⟩
      obtain ⟨A3, n3, c3, rfl, hv3⟩ := hr3.open_
      have hfd := field_groups (.bool (decide (sgn false (val out) < 0))) (.slice A3 n3 c3)
      go_wp2
      go_ret
      refine ⟨_, rfl, ?_, hk1.trans' hk3⟩
      rw [sgn_natAbs, HF.out] at hv3
      exact hv3

theorem rplus_d (v1 v2 : Value) (a b : Nat) (w : World) (h1 : U32 w v1 (dig a)) (h2 : U32 w v2 (dig b)) (hm1 : (dig a).length ≤ 1000000) (hm2 : (dig b).length ≤ 1000000) :
    Calls Tryd.prog 58 #[v1, v2] w fun e w' => ∃ v, e = .returned v ∧ U32 w' v (dig (a + b)) ∧ Keeps w w' := by
  obtain ⟨A, n, c, rfl, e1, -⟩ := h1.open_
  obtain ⟨D, m, d, rfl, e2, -⟩ := h2.open_
  have := rplus_core A D n m c d _ _ w e1 e2 h1 h2 (AllB.dig a) (AllB.dig b) (by omega) (by omega)
  rwa [val_dig, val_dig] at this
theorem rminus_d (v1 v2 : Value) (a b : Nat) (w : World) (h1 : U32 w v1 (dig a)) (h2 : U32 w v2 (dig b)) (hm1 : (dig a).length ≤ 1000000) (hle : b ≤ a) :
    Calls Tryd.prog 60 #[v1, v2] w fun e w' => ∃ v, e = .returned v ∧ U32 w' v (dig (a - b)) ∧ Keeps w w' := by
  obtain ⟨A, n, c, rfl, e1, -⟩ := h1.open_
  obtain ⟨D, m, d, rfl, e2, -⟩ := h2.open_
  have := rminus_core A D n m c d _ _ w e1 e2 h1 h2 (AllB.dig a) (AllB.dig b) (by omega) (by have := dig_length_mono hle; omega) (by rw [val_dig, val_dig]; exact hle)
  rwa [val_dig, val_dig] at this
theorem rmade_d (neg : Bool) (v : Value) (m : Nat) (w : World) (h : U32 w v (dig m)) (hm : (dig m).length ≤ 4000000) :
    Calls Tryd.prog 55 #[.bool neg, v] w fun e w' => ∃ V, e = .returned V ∧ IntRep w' V (sgn neg m) ∧ Keeps w w' := by
  have := rmade_u neg v (dig m) w h (AllB.dig m) hm
  rwa [val_dig] at this

theorem sign_sgn (neg : Bool) (m : Nat) (h : m ≠ 0) : decide (sgn neg m < 0) = neg := by
  cases neg <;> simp [sgn] <;> omega
theorem sgn_of_rep (z : Int) : sgn (decide (z < 0)) z.natAbs = z := by
  by_cases h : z < 0
  · rw [decide_eq_true h]; simp [sgn]; omega
  · rw [decide_eq_false h]; simp [sgn]; omega

/-- a canonical integer as an argument -/
theorem IntRep.arg {w : World} {V : Value} {z : Int} (h : IntRep w V z) : IntArg w V (decide (z < 0)) (dig z.natAbs) := h
theorem validB_rep (z : Int) : validB (decide (z < 0)) (dig z.natAbs) = true := by
  unfold validB
  by_cases h0 : z.natAbs = 0
  · rw [if_pos (by rw [h0, dig_zero]; rfl)]
    simp; omega
  · rw [if_neg (by rw [dig_length_zero]; exact h0), Bool.and_eq_true]
    refine ⟨by simpa using dig_last h0, ?_⟩
    rw [List.all_eq_true]
    intro x hx
    have := AllB.dig z.natAbs x hx
    simpa using this
theorem cnt_rep (z : Int) : cnt (decide (z < 0)) (dig z.natAbs) = z := by
  unfold cnt mag
  rw [if_pos (validB_rep z), val_dig]
  exact sgn_of_rep z

set_option maxRecDepth 100000 in
set_option maxHeartbeats 400000 in
theorem rsign_any (neg : Bool) (xs : List Nat) (V : Value) (w : World) (h : IntArg w V neg xs) (hm : xs.length ≤ 1000000) :
    Calls Tryd.prog 30 #[V] w fun e w' => e = .returned (.int .i64 (cnt neg xs).sign) ∧ Keeps w w' := by
  obtain ⟨v, rfl, hv⟩ := h
  have hkk := box2 w (.cells #[.bool neg, v] 24)
  have hB := Own.new w 24 [.bool neg, v]
  have hG := Lib.hid (rvalue_any neg xs (.agg #[.bool neg, v]) _ ⟨v, rfl, hv.below hkk⟩ hm)
  generalize cnt neg xs = z at hG ⊢
  go_enter Tryd.func30, Tryd.ntmps30
  go_wp2_with fail
  refine hG.out.mono ?_
  rintro e w1 ⟨V3, rfl, hr3, hk1⟩
  obtain ⟨A3, n3, c3, rfl, hv3⟩ := hr3.open_
  obtain ⟨A', n', c', e', e1, -⟩ := hv3.open_
  cases e'
  have hB1 := hB.below hk1
  have r0 := hB1.c0
  have r1 := hB1.c1
  have f0 := hB1.frozen 0
  have f1 := hB1.frozen 1
  have hk := hkk.trans' hk1
  have hB2 := hB1.two (.bool (decide (z < 0))) (.slice A3 n3 c3)
  have s0 := hB2.c0
  have s1 := hB2.c1
  rcases Int.lt_trichotomy z 0 with hz | hz | hz
  · have hd : decide (z < 0) = true := decide_eq_true hz
    have hn : ((n3 : Int) == 0) = false := by have := dig_length_pos.2 (show z.natAbs ≠ 0 by omega); simp; omega
    have HZ := Lib.hid hz
    rw [hd] at *
    clear hz e1 hd
    go_wp2
    go_ret
    exact ⟨ret_int (by rw [Int.sign_eq_neg_one_of_neg HZ.out]), (hk.set (by simp) _).set (by simp) _⟩
  · have hd : decide (z < 0) = false := decide_eq_false (by omega)
    have hn : ((n3 : Int) == 0) = true := by rw [hz] at e1; simp [dig_zero] at e1; simp; omega
    have HZ := Lib.hid hz
    rw [hd] at *
    clear hz e1 hd
    go_wp2
    go_ret
    exact ⟨ret_int (by rw [HZ.out]; rfl), (hk.set (by simp) _).set (by simp) _⟩
  · have hd : decide (z < 0) = false := decide_eq_false (by omega)
    have hn : ((n3 : Int) == 0) = false := by have := dig_length_pos.2 (show z.natAbs ≠ 0 by omega); simp; omega
    have HZ := Lib.hid hz
    rw [hd] at *
    clear hz e1 hd
    go_wp2
    go_ret
    exact ⟨ret_int (by rw [Int.sign_eq_one_of_pos HZ.out]), (hk.set (by simp) _).set (by simp) _⟩
end Go.Proofs.YthgbgoidnnfapaaDoor
