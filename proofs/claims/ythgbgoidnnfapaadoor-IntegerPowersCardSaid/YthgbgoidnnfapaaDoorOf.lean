/- The walks of Of and of the reference's Of. -/
import Derived.Test.YthgbgoidnnfapaaDoorRefA
namespace Go.Proofs.YthgbgoidnnfapaaDoor
open Go.RowKit Go.Shelf

theorem wrap_neg (z : Int) (h1 : -9223372036854775808 ≤ z) (h2 : z < 0) : IntKind.u64.wrap (-IntKind.u64.wrap z) = ((z.natAbs : Nat) : Int) := by
  rw [IntKind.wrap_u64, IntKind.wrap_u64]; omega
theorem sgn_abs (z : Int) : sgn (decide (z < 0)) z.natAbs = z := by
  unfold sgn; split <;> simp_all <;> omega

set_option maxRecDepth 100000 in
set_option maxHeartbeats 400000 in
theorem of_any (z : Int) (w : World) (h1 : -9223372036854775808 ≤ z) (h2 : z ≤ 9223372036854775807) :
    Calls Tryd.prog 13 #[.int .i64 z] w fun e w' => ∃ V, e = .returned V ∧ IntRep w' V z ∧ Keeps w w' := by
  have hR := Own.new w 24 [.bool false, .slice none 0 0]
  have hk := box2 w (.cells #[.bool false, .slice none 0 0] 24)
  have HA := Lib.hid (sgn_abs z)
  by_cases hz : z < 0
  · have HW := Lib.hid (wrap_neg z h1 hz)
    have HD := Lib.hid (decide_eq_true hz)
    go_enter Tryd.func13, Tryd.ntmps13
    go_wp2_with fail
    rw [HW.out]
    refine (split_any z.natAbs _ (by omega)).mono ?_
    rintro e w1 ⟨v1, rfl, hv1, hk1⟩
    go_wp2_with fail
    refine (made_d true v1 _ _ hv1).mono ?_
    rintro e w3 ⟨V3, rfl, hr3, hk3⟩
    rw [show sgn true z.natAbs = z by rw [← HD.out]; exact HA.out] at hr3
    have hR3 := (hR.below hk1).below hk3
    have hk' := (hk.trans' hk1).trans' hk3
    obtain ⟨A3, n3, c3, rfl, hv3⟩ := hr3.open_
    rw [HD.out] at hr3 ⊢
    have r0 := hR3.c0
    have r1 := hR3.c1
    have f0 := hR3.frozen 0
    have f1 := hR3.frozen 1
    go_wp2
    have hR4 := hR3.two (.bool true) (.slice A3 n3 c3)
    refine bodyPost_ret (v := .agg #[.bool true, .slice A3 n3 c3]) (by simp [results, Tryd.results13, go_sem, hR4.c0, hR4.c1]) rfl ?_
    exact ⟨_, rfl, hr3.two hR3 rfl rfl rfl, (hk'.set (by simp) _).set (by simp) _⟩
  · have hz' : 0 ≤ z := by omega
    have HD := Lib.hid (decide_eq_false hz)
    obtain ⟨m, rfl⟩ := Int.eq_ofNat_of_zero_le hz'
    go_enter Tryd.func13, Tryd.ntmps13
    go_wp2_with fail
    refine (split_any m _ (by omega)).mono ?_
    rintro e w1 ⟨v1, rfl, hv1, hk1⟩
    go_wp2_with fail
    refine (made_d false v1 _ _ hv1).mono ?_
    rintro e w3 ⟨V3, rfl, hr3, hk3⟩
    rw [show sgn false m = (m : Int) by rfl] at hr3
    have hR3 := (hR.below hk1).below hk3
    have hk' := (hk.trans' hk1).trans' hk3
    obtain ⟨A3, n3, c3, rfl, hv3⟩ := hr3.open_
    rw [HD.out] at hr3 ⊢
    have r0 := hR3.c0
    have r1 := hR3.c1
    have f0 := hR3.frozen 0
    have f1 := hR3.frozen 1
    go_wp2
    have hR4 := hR3.two (.bool false) (.slice A3 n3 c3)
    refine bodyPost_ret (v := .agg #[.bool false, .slice A3 n3 c3]) (by simp [results, Tryd.results13, go_sem, hR4.c0, hR4.c1]) rfl ?_
    exact ⟨_, rfl, hr3.two hR3 rfl rfl rfl, (hk'.set (by simp) _).set (by simp) _⟩

set_option maxRecDepth 100000 in
set_option maxHeartbeats 400000 in
theorem rof_any (z : Int) (w : World) (h1 : -9223372036854775808 ≤ z) (h2 : z ≤ 9223372036854775807) :
    Calls Tryd.prog 16 #[.int .i64 z] w fun e w' => ∃ V, e = .returned V ∧ IntRep w' V z ∧ Keeps w w' := by
  obtain ⟨i0, hi, hz0, hz1, hz2⟩ := info_parts info_u32
  have hR := Own.new w 24 [.bool false, .slice none 0 0]
  have HA := Lib.hid (sgn_abs z)
  have hm0 : z.natAbs ≤ 9223372036854775808 := by omega
  have hd3 : (dig z.natAbs).length ≤ 3 := dig_length_le (by omega)
  by_cases hz : z < 0
  · have HD := Lib.hid (decide_eq_true hz)
    have HSG := Lib.hid (show sgn true z.natAbs = z by rw [← HD.out]; exact HA.out)
    have e1 : -(z + 1) + 1 = ((z.natAbs : Nat) : Int) := by omega
    have HE := Lib.hid e1
    clear e1
    go_enter Tryd.func16, Tryd.ntmps16
    go_wp2
    rw [HE.out]
    have hown := made2 w (.cells #[.bool false, .slice none 0 0] 24) 48
    have hR1 := hR.alloc (.cells #[] 48)
    have hk0 := keep2 w (.cells #[.bool false, .slice none 0 0] 24) (.cells #[] 48)
    go_loopw [3, 4] (fun x g wr => ∃ (k : Nat) (out : List Nat), k ≤ z.natAbs ∧ x = .int .u64 (k : Nat) ∧ out ++ dig k = dig z.natAbs ∧ wr.ownsRow (w.heap.size + 1) 48 1 g out.length (u32s out) ∧ Own wr w.heap.size 24 [.bool false, .slice none 0 0] ∧ Keeps w wr)
      (fun x _ _ => (intOf x).toNat)
    case atStart => exact ⟨z.natAbs, [], Nat.le_refl _, rfl, rfl, hown, hR1, hk0⟩
    case round =>
      obtain ⟨k, out, hk, rfl, hd, hown, hR2, hk1⟩ := hrel
      by_cases hpos : 0 < k
      · have hol : out.length ≤ 2 := by
          have := congrArg List.length hd
          rw [List.length_append] at this
          have := dig_length_pos.2 (show k ≠ 0 by omega)
          omega
        rw [dig_pos (by omega)] at hd
        have HDD := Lib.hid hd
        clear hd
        go_wp2_with (at_builtin; refine wpList_append_own _ rfl _ _ 22 rfl (w.heap.size + 1) 48 i0 (.int .u32 0) 1 4 Tryd.underlying22 hi hz0 hz1 hz2 rfl (by decide) _ _ _ rfl (hown.alloc _) ⟨wr.heap.size, 0, none⟩ 1 1 [.int .u32 ((k : Int) % 1000000000)] rfl rfl (newcell _ _ _) (by simp [Value.oneCell']) (by simp only [maxLen]; omega) (by omega) (by have := hR2.lt; simp; omega) ?_; intro v' w1 hown' hgrow _)
        rw [u32s_snoc out (k % 1000000000) (by omega)] at hown'
        have hk2 : Keeps w w1 := (hk1.alloc hk1.size _).grown hgrow (by have := hk1.size; simp; omega) (fun b e => by have := (hown.lt b e).1; omega)
        have hR3 := (hR2.alloc _).grown hgrow (fun e => by have := (hown.lt _ e.symm).1; omega)
        go_roundw
        case rel => exact ⟨k / 1000000000, out ++ [k % 1000000000], by omega, by go_num, by rw [List.append_assoc]; exact HDD.out, by simpa using hown', hR3, hk2⟩
        case measure => simp [intOf]; omega
      · obtain rfl : k = 0 := by omega
        rw [dig_zero, List.append_nil] at hd
        have HDD := Lib.hid hd
        clear hd
        have hu := U32.of_own hown
        go_wp2_with fail
        refine (rmade_u true _ _ _ hu (by rw [HDD.out]; exact AllB.dig _) (by rw [HDD.out]; omega)).mono ?_
        rintro e w3 ⟨V3, rfl, hr3, hk3⟩
        rw [HDD.out, val_dig] at hr3
        rw [HSG.out] at hr3
        have hR3 := hR2.below hk3
        have hk' := hk1.trans' hk3
        obtain ⟨A3, n3, c3, rfl, hv3⟩ := hr3.open_
        rw [HD.out] at hr3 ⊢
        have r0 := hR3.c0
        have r1 := hR3.c1
        have f0 := hR3.frozen 0
        have f1 := hR3.frozen 1
        go_wp2
        have hR4 := hR3.two (.bool true) (.slice A3 n3 c3)
        refine bodyPost_ret (v := .agg #[.bool true, .slice A3 n3 c3]) (by simp [results, Tryd.results16, go_sem, hR4.c0, hR4.c1]) rfl ?_
        exact ⟨_, rfl, hr3.two hR3 rfl rfl rfl, (hk'.set (by simp) _).set (by simp) _⟩
  · have hz' : 0 ≤ z := by omega
    have HD := Lib.hid (decide_eq_false hz)
    obtain ⟨m, rfl⟩ := Int.eq_ofNat_of_zero_le hz'
    have HSG := Lib.hid (show sgn false m = (m : Int) by rfl)
    rw [show ((m : Int)).natAbs = m by simp] at hd3 hm0
    go_enter Tryd.func16, Tryd.ntmps16
    go_wp2
    have hown := made2 w (.cells #[.bool false, .slice none 0 0] 24) 48
    have hR1 := hR.alloc (.cells #[] 48)
    have hk0 := keep2 w (.cells #[.bool false, .slice none 0 0] 24) (.cells #[] 48)
    go_loopw [3, 4] (fun x g wr => ∃ (k : Nat) (out : List Nat), k ≤ m ∧ x = .int .u64 (k : Nat) ∧ out ++ dig k = dig m ∧ wr.ownsRow (w.heap.size + 1) 48 1 g out.length (u32s out) ∧ Own wr w.heap.size 24 [.bool false, .slice none 0 0] ∧ Keeps w wr)
      (fun x _ _ => (intOf x).toNat)
    case atStart => exact ⟨m, [], Nat.le_refl _, rfl, rfl, hown, hR1, hk0⟩
    case round =>
      obtain ⟨k, out, hk, rfl, hd, hown, hR2, hk1⟩ := hrel
      by_cases hpos : 0 < k
      · have hol : out.length ≤ 2 := by
          have := congrArg List.length hd
          rw [List.length_append] at this
          have := dig_length_pos.2 (show k ≠ 0 by omega)
          omega
        rw [dig_pos (by omega)] at hd
        have HDD := Lib.hid hd
        clear hd
        go_wp2_with (at_builtin; refine wpList_append_own _ rfl _ _ 22 rfl (w.heap.size + 1) 48 i0 (.int .u32 0) 1 4 Tryd.underlying22 hi hz0 hz1 hz2 rfl (by decide) _ _ _ rfl (hown.alloc _) ⟨wr.heap.size, 0, none⟩ 1 1 [.int .u32 ((k : Int) % 1000000000)] rfl rfl (newcell _ _ _) (by simp [Value.oneCell']) (by simp only [maxLen]; omega) (by omega) (by have := hR2.lt; simp; omega) ?_; intro v' w1 hown' hgrow _)
        rw [u32s_snoc out (k % 1000000000) (by omega)] at hown'
        have hk2 : Keeps w w1 := (hk1.alloc hk1.size _).grown hgrow (by have := hk1.size; simp; omega) (fun b e => by have := (hown.lt b e).1; omega)
        have hR3 := (hR2.alloc _).grown hgrow (fun e => by have := (hown.lt _ e.symm).1; omega)
        go_roundw
        case rel => exact ⟨k / 1000000000, out ++ [k % 1000000000], by omega, by go_num, by rw [List.append_assoc]; exact HDD.out, by simpa using hown', hR3, hk2⟩
        case measure => simp [intOf]; omega
      · obtain rfl : k = 0 := by omega
        rw [dig_zero, List.append_nil] at hd
        have HDD := Lib.hid hd
        clear hd
        have hu := U32.of_own hown
        go_wp2_with fail
        refine (rmade_u false _ _ _ hu (by rw [HDD.out]; exact AllB.dig _) (by rw [HDD.out]; omega)).mono ?_
        rintro e w3 ⟨V3, rfl, hr3, hk3⟩
        rw [HDD.out, val_dig] at hr3
        rw [HSG.out] at hr3
        have hR3 := hR2.below hk3
        have hk' := hk1.trans' hk3
        obtain ⟨A3, n3, c3, rfl, hv3⟩ := hr3.open_
        rw [HD.out] at hr3 ⊢
        have r0 := hR3.c0
        have r1 := hR3.c1
        have f0 := hR3.frozen 0
        have f1 := hR3.frozen 1
        go_wp2
        have hR4 := hR3.two (.bool false) (.slice A3 n3 c3)
        refine bodyPost_ret (v := .agg #[.bool false, .slice A3 n3 c3]) (by simp [results, Tryd.results16, go_sem, hR4.c0, hR4.c1]) rfl ?_
        exact ⟨_, rfl, hr3.two hR3 rfl rfl rfl, (hk'.set (by simp) _).set (by simp) _⟩
end Go.Proofs.YthgbgoidnnfapaaDoor
