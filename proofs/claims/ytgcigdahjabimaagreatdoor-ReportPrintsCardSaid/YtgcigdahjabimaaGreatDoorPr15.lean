/- The walks of the reference's pair and Gcd. The walks of Of and of the reference's Of. -/
import Derived.Test.YtgcigdahjabimaaGreatDoorPr13
import Derived.Test.YtgcigdahjabimaaGreatDoorPr14
import Derived.Test.YtgcigdahjabimaaGreatDoorPr4
namespace Go.Proofs.YtgcigdahjabimaaGreatDoor
open Go.RowKit Go.Shelf

theorem two_u32 (w : World) (t : TypeId) (x y : Nat) : U32 (w.alloc (.cells #[.int .u32 (x : Nat), .int .u32 (y : Nat)] t)) (.slice (some ⟨w.heap.size, 0, none⟩) 2 2) [x, y] :=
 U32.mk (xs := [x, y]) (Own.row (xs := [x, y]) (Own.new w t (u32s [x, y]))) (Nat.le_refl _) (by simp [maxLen]) (by intro e; cases e)
theorem val_two {xs : List Nat} (h : xs.length ≤ 2) : ix xs 1 * 1000000000 + ix xs 0 = val xs := by
 match xs, h with
 | [], _ => simp [ix, val]
 | [x], _ => simp [ix, val]
 | [x, y], _ => simp [ix, val]; omega
set_option maxRecDepth 100000 in
set_option maxHeartbeats 400000 in
theorem pair_any (v : Value) (m : Nat) (w : World) (h : U32 w v (dig m)) (hm : (dig m).length ≤ 2) :
 Calls Tryz.prog 109 #[v] w fun e w' => e = .returned (.int .u64 (m : Nat)) ∧ w = w' := by
 have hv := val_two hm
 rw [val_dig] at hv
 have h0 := (AllB.dig m).ix 0
 have h1 := (AllB.dig m).ix 1
 have hG1 := Lib.hid (group_any v (dig m) 1 w h (AllB.dig m) (by omega) (by omega))
 have hG0 := Lib.hid (group_any v (dig m) 0 w h (AllB.dig m) (by omega) (by omega))
 generalize ix (dig m) 0 = x0 at *
 generalize ix (dig m) 1 = x1 at *
 have e1 : (x1 : Int) < 1000000000 := by omega
 have e0 : (x0 : Int) < 1000000000 := by omega
 have HV := Lib.hid hv
 clear hv
 go_enter Tryz.func109, Tryz.ntmps109
 go_wp2_with fail
 refine hG1.out.mono ?_
 rintro e w1 ⟨rfl, rfl⟩
 go_wp2_with fail
 refine hG0.out.mono ?_
 rintro e w2 ⟨rfl, rfl⟩
 go_wp2
 go_ret
 exact ⟨ret_int (by have := HV.out; omega), rfl⟩

set_option maxRecDepth 100000 in
set_option maxHeartbeats 1000000 in
theorem rgcd_any (n1 n2 : Bool) (xs ys : List Nat) (V1 V2 : Value) (w : World) (h1 : IntArg w V1 n1 xs) (h2 : IntArg w V2 n2 ys) (hm1 : xs.length ≤ 900000) (hm2 : ys.length ≤ 900000) :
 Calls Tryz.prog 67 #[V1, V2] w fun e w' => ∃ V, e = .returned V ∧ IntRep w' V ((Nat.gcd (mag n1 xs) (mag n2 ys) : Nat) : Int) ∧ Keeps w w' := by
 obtain ⟨v1, rfl, hv1⟩ := h1
 obtain ⟨v2, rfl, hv2⟩ := h2
 have hml1 := mag_length n1 xs
 have hml2 := mag_length n2 ys
 have hkk := keep3 w (.cells #[.bool n1, v1] 29) (.cells #[.bool n2, v2] 29) (.cells #[.bool false, .slice none 0 0] 29)
 have hG1 := Lib.hid (fun W (hW : IntArg W (.agg #[.bool n1, v1]) n1 xs) => rvalue_any n1 xs (.agg #[.bool n1, v1]) W hW (by omega))
 have hG2 := Lib.hid (fun W (hW : IntArg W (.agg #[.bool n2, v2]) n2 ys) => rvalue_any n2 ys (.agg #[.bool n2, v2]) W hW (by omega))
 have hR := own3 w (.cells #[.bool n1, v1] 29) (.cells #[.bool n2, v2] 29) 29 [.bool false, .slice none 0 0]
 have hB := (own2 w (.cells #[.bool n1, v1] 29) 29 [.bool n2, v2]).alloc (.cells #[.bool false, .slice none 0 0] 29)
 have hA := ((Own.new w 29 [.bool n1, v1]).alloc (.cells #[.bool n2, v2] 29)).alloc (.cells #[.bool false, .slice none 0 0] 29)
 have ea := cnt_abs n1 xs
 have eb := cnt_abs n2 ys
 generalize mag n1 xs = a at *
 generalize mag n2 ys = b at *
 obtain ⟨g, hg⟩ : ∃ g, Nat.gcd a b = g := ⟨_, rfl⟩
 rw [hg]
 have HG := Lib.hid hg
 have EA := Lib.hid ea
 have EB := Lib.hid eb
 have hfd : ∀ (x y : Value) (w : World), (Instr.field 29 (.agg #[x, y]) 1).run Tryz.prog w = .ok y w := field_groups
 clear hg ea eb
 go_enter Tryz.func67, Tryz.ntmps67
 go_wp2_with fail
 have g1 := hv1.below hkk
 have g2 := hv2.below hkk
 generalize ((w.alloc (.cells #[.bool n1, v1] 29)).alloc (.cells #[.bool n2, v2] 29)).alloc (.cells #[.bool false, .slice none 0 0] 29) = W at *
 replace hA := hA.drew
 replace hB := hB.drew
 replace hR := hR.drew
 replace g1 := g1.drew
 replace g2 := g2.drew
 replace hkk : Keeps w W.drew := Below.drew hkk
 go_region_held3 (fun w' => w'.cell? ⟨w.heap.size, 0, none⟩ = some (.bool n1) ∧ w'.cell? ⟨w.heap.size, 1, none⟩ = some v1 ∧ w'.cell? ⟨w.heap.size + 1, 0, none⟩ = some (.bool n2) ∧ w'.cell? ⟨w.heap.size + 1, 1, none⟩ = some v2)
  (exact ⟨hA.c0, hA.c1, hB.c0, hB.c1⟩)
  (first
   | (go_at_call_of 99 (Value.agg #[Value.bool n1, v1]); refine (hG1.out _ ⟨v1, rfl, g1⟩).mono ?_; rintro e w1 ⟨u1, rfl, hr1, hk⟩; obtain ⟨A1, m1, c1, rfl, hu1⟩ := hr1.open_; replace hA := hA.below hk; replace hB := hB.below hk; replace hR := hR.below hk; replace g2 := g2.below hk; replace hkk := hkk.trans' hk)
   | (go_at_call 99; refine (hG2.out _ ⟨v2, rfl, g2⟩).mono ?_; rintro e w2 ⟨u2, rfl, hr2, hk⟩; obtain ⟨A2, m2, c2, rfl, hu2⟩ := hr2.open_; replace hA := hA.below hk; replace hB := hB.below hk; replace hR := hR.below hk; replace hu1 := hu1.below hk; replace hkk := hkk.trans' hk))
 rw [EA.out] at hu1
 rw [EB.out] at hu2
 clear g1 g2 hG1 hG2 hA hB hk hv1 hv2 hr1 hr2 hfd
 generalize Value.slice A1 m1 c1 = u1 at *
 generalize Value.slice A2 m2 c2 = u2 at *
 go_wp2_with fail
 go_loopg [5, 6] b (fun k u v wr => ∃ A B : Nat, B = k ∧ Nat.gcd A B = g ∧ (dig A).length ≤ 900000 ∧ (dig B).length ≤ 900000 ∧ U32 wr u (dig A) ∧ U32 wr v (dig B) ∧ Own wr (w.heap.size + 1 + 1) 29 [.bool false, .slice none 0 0] ∧ Keeps w wr)
 case atStart => exact ⟨a, b, rfl, HG.out, by omega, by omega, hu1, hu2, hR, hkk⟩
 case round =>
  clear hu1 hu2 hR hkk
  obtain ⟨A, B, rfl, hg, hlA, hlB, hu1, hu2, hR1, hk1⟩ := hrel
  obtain ⟨A1, m1, c1, rfl, e1, -, -, -, -⟩ := hu1.open_
  obtain ⟨A2, m2, c2, rfl, e2, -, -, -, -⟩ := hu2.open_
  have HG2 := Lib.hid hg
  have HE1 := Lib.hid e1
  have HE2 := Lib.hid e2
  clear hg
  by_cases hB : B = 0
  ·subst hB
   obtain rfl : m2 = 0 := by rw [dig_zero] at e2; simpa using e2.symm
   have hag : A = g := by have := HG2.out; rwa [Nat.gcd_zero_right] at this
   subst hag
   clear e1 e2
   go_wp2_with fail
   refine (rmade_d false _ A _ hu1 (by omega)).mono ?_
   rintro e w5 ⟨V9, rfl, hr9, hk5⟩
   have hR9 := hR1.below hk5
   have hk9 := hk1.trans' hk5
   obtain ⟨g, rfl⟩ : ∃ g, g = A := ⟨_, rfl⟩
   obtain ⟨A9, n9, c9, rfl, -⟩ := hr9.open_
   rw [show sgn false g = (g : Int) from rfl] at hr9
   have hd9 : decide (sgn false g < 0) = false := decide_eq_false (by simp [sgn])
   rw [hd9]
   clear hd9
   have r0 := hR9.c0
   have r1 := hR9.c1
   have f0 := hR9.frozen 0
   have f1 := hR9.frozen 1
   have hdg : decide ((g : Int) < 0) = false := decide_eq_false (by omega)
   rw [hdg] at hr9
   clear hdg
   go_wp2
   have hR4 := hR9.two (.bool false) (.slice A9 n9 c9)
   refine bodyPost_ret (v := .agg #[.bool false, .slice A9 n9 c9]) (by simp [results, Tryz.results67, go_sem, hR4.c0, hR4.c1]) rfl ?_
   exact ⟨_, rfl, hr9.two hR9 rfl rfl rfl, (hk9.set (by simp only; omega) _).set (by simp only; omega) _⟩
  ·have hm2p : 0 < m2 := by have := dig_length_pos.2 hB; omega
   have HB := Lib.hid hB
   clear e1 e2 hB
   by_cases hs1 : 2 < m1
   ·have hd1 : decide ((2 : Int) < m1) = true := decide_eq_true (by omega)
    go_wp2_with fail
    refine (rparts_any _ _ A B _ hu1 hu2 hlA hlB HB.out).mono ?_
    rintro e w4 ⟨q4, r4, rfl, -, hr4, hk4⟩
    go_wp2
    go_roundg (A % B)
    case measure => exact Nat.mod_lt _ (Nat.pos_of_ne_zero HB.out)
    case rel => exact ⟨B, A % B, rfl, (gcd_step A B).trans HG2.out, hlB, Nat.le_trans (dig_length_mono (Nat.le_of_lt (Nat.mod_lt A (Nat.pos_of_ne_zero HB.out)))) hlB, hu2.below hk4, hr4, hR1.below hk4, hk1.trans' hk4⟩
   ·have hd1 : decide ((2 : Int) < m1) = false := decide_eq_false (by omega)
    by_cases hs2 : 2 < m2
    ·have hd2 : decide ((2 : Int) < m2) = true := decide_eq_true (by omega)
     go_wp2_with fail
     refine (rparts_any _ _ A B _ hu1 hu2 hlA hlB HB.out).mono ?_
     rintro e w4 ⟨q4, r4, rfl, -, hr4, hk4⟩
     go_wp2
     go_roundg (A % B)
     case measure => exact Nat.mod_lt _ (Nat.pos_of_ne_zero HB.out)
     case rel => exact ⟨B, A % B, rfl, (gcd_step A B).trans HG2.out, hlB, Nat.le_trans (dig_length_mono (Nat.le_of_lt (Nat.mod_lt A (Nat.pos_of_ne_zero HB.out)))) hlB, hu2.below hk4, hr4, hR1.below hk4, hk1.trans' hk4⟩
    ·have hd2 : decide ((2 : Int) < m2) = false := decide_eq_false (by omega)
     have hm0 : ((m2 : Int) == 0) = false := by rw [beq_eq_false_iff_ne]; omega
     have hlA2 : A < 1000000000000000000 := by have := dig_lt A; rw [HE1.out] at this; exact Nat.lt_of_lt_of_le this (Nat.pow_le_pow_right (n := 1000000000) (by omega) (show m1 ≤ 2 by omega))
     have hlB2 : B < 1000000000000000000 := by have := dig_lt B; rw [HE2.out] at this; exact Nat.lt_of_lt_of_le this (Nat.pow_le_pow_right (n := 1000000000) (by omega) (show m2 ≤ 2 by omega))
     have hP1 := Lib.hid (pair_any _ A wr hu1 (by have := HE1.out; omega))
     have hP2 := Lib.hid (pair_any _ B wr hu2 (by have := HE2.out; omega))
     have LA := Lib.hid hlA2
     have LB := Lib.hid hlB2
     clear hlA2 hlB2
     go_wp2_with fail
     refine hP1.out.mono ?_
     rintro e w3 ⟨rfl, rfl⟩
     go_wp2_with fail
     refine hP2.out.mono ?_
     rintro e w3 ⟨rfl, rfl⟩
     go_wp2_with fail
     clear hP1 hP2
     go_loopw [9, 10] (fun x y wi => ∃ m n : Nat, x = .int .u64 (m : Nat) ∧ y = .int .u64 (n : Nat) ∧ m < 1000000000000000000 ∧ n < 1000000000000000000 ∧ Nat.gcd m n = g ∧ Own wi (w.heap.size + 1 + 1) 29 [.bool false, .slice none 0 0] ∧ Keeps w wi)
      (fun _ y _ => (intOf y).toNat)
     case atStart => exact ⟨A, B, rfl, rfl, LA.out, LB.out, HG2.out, hR1, hk1⟩
     case round =>
      obtain ⟨m, n, rfl, rfl, hm, hn, hgm, hR3, kw3⟩ := hrel
      have HGM := Lib.hid hgm
      clear hgm
      by_cases hn0 : n = 0
      ·subst hn0
       have hmg : m = g := by have := HGM.out; rwa [Nat.gcd_zero_right] at this
       subst hmg
       have hq1 : (m : Int) / 1000000000 < 1000000000 := by omega
       go_wp2_with fail
       refine (rmade_u false (.slice (some ⟨wr.heap.size, 0, none⟩) 2 2) [m % 1000000000, m / 1000000000] _ (by simpa using two_u32 wr 109 (m % 1000000000) (m / 1000000000)) (AllB.cons (by omega) (AllB.single (by omega))) (by simp)).mono ?_
       rintro e w6 ⟨V9, rfl, hr9, hk6⟩
       rw [show val [m % 1000000000, m / 1000000000] = m by simp [val]; omega] at hr9
       have hk6' : Keeps wr w6 := (box2 _ _).trans' hk6
       have hR9 := hR3.below hk6'
       have hk9 := kw3.trans' hk6'
       obtain ⟨g, rfl⟩ : ∃ g, g = m := ⟨_, rfl⟩
       obtain ⟨A9, n9, c9, rfl, -⟩ := hr9.open_
       rw [show sgn false g = (g : Int) from rfl] at hr9
       have hd9 : decide (sgn false g < 0) = false := decide_eq_false (by simp [sgn])
       rw [hd9]
       clear hd9
       have r0 := hR9.c0
       have r1 := hR9.c1
       have f0 := hR9.frozen 0
       have f1 := hR9.frozen 1
       have hdg : decide ((g : Int) < 0) = false := decide_eq_false (by omega)
       rw [hdg] at hr9
       clear hdg
       go_wp2
       have hR4 := hR9.two (.bool false) (.slice A9 n9 c9)
       refine bodyPost_ret (v := .agg #[.bool false, .slice A9 n9 c9]) (by simp [results, Tryz.results67, go_sem, hR4.c0, hR4.c1]) rfl ?_
       exact ⟨_, rfl, hr9.two hR9 rfl rfl rfl, (hk9.set (by simp only; omega) _).set (by simp only; omega) _⟩
      ·have hnp : 0 < n := Nat.pos_of_ne_zero hn0
       have hnI : (0 : Int) < n := by omega
       have hlt := Nat.mod_lt m hnp
       have t2 : ((m : Int).tmod (n : Int)) = ((m % n : Nat) : Int) := by rw [Int.natCast_emod]; exact IntWalk.rem_in _ _ (by omega)
       obtain ⟨R, hRR⟩ : ∃ R, m % n = R := ⟨_, rfl⟩
       rw [hRR] at t2 hlt
       have g5 : IntKind.u64.wrap (R : Int) = (R : Int) := IntWalk.u64_in _ (by omega)
       have HR := Lib.hid hRR
       clear hRR
       go_wp2
       go_quiet (fail)
       go_wp2
       go_roundw
       case rel => exact ⟨n, R, rfl, rfl, hn, by omega, by rw [← HR.out]; exact (gcd_step m n).trans HGM.out, hR3.drewN _, below_drewN kw3 _⟩
       case measure => simp [intOf]; omega
theorem wrap_neg (z : Int) (h1 : -9223372036854775808 ≤ z) (h2 : z < 0) : IntKind.u64.wrap (-IntKind.u64.wrap z) = ((z.natAbs : Nat) : Int) := by
 rw [IntKind.wrap_u64, IntKind.wrap_u64]; omega
theorem sgn_abs (z : Int) : sgn (decide (z < 0)) z.natAbs = z := by
 unfold sgn; split <;> simp_all <;> omega

set_option maxRecDepth 100000 in
set_option maxHeartbeats 400000 in
theorem of_any (z : Int) (w : World) (h1 : -9223372036854775808 ≤ z) (h2 : z ≤ 9223372036854775807) :
 Calls Tryz.prog 44 #[.int .i64 z] w fun e w' => ∃ V, e = .returned V ∧ IntRep w' V z ∧ Keeps w w' := by
 have hR := Own.new w 29 [.bool false, .slice none 0 0]
 have hk := box2 w (.cells #[.bool false, .slice none 0 0] 29)
 have HA := Lib.hid (sgn_abs z)
 by_cases hz : z < 0
 ·have HW := Lib.hid (wrap_neg z h1 hz)
  have HD := Lib.hid (decide_eq_true hz)
  go_enter Tryz.func44, Tryz.ntmps44
  go_wp2_with fail
  rw [HW.out]
  refine (split_any z.natAbs _ (by omega)).mono ?_
  rintro e w1 ⟨v1, rfl, hv1, hk1⟩
  go_wp2_with fail
  refine (made_d true v1 _ _ hv1).mono ?_
  rintro e w3 ⟨V3, rfl, hr3, hk3⟩
  rw [show sgn true z.natAbs = z by rw [← HD.out]; exact HA.out] at hr3
  have hR3 := (hR.below hk1).below hk3
  have hk' := (hk.trans' hk1).trans' hk3
  obtain ⟨A3, n3, c3, rfl, hv3⟩ := hr3.open_
  rw [HD.out] at hr3 ⊢
  have r0 := hR3.c0
  have r1 := hR3.c1
  have f0 := hR3.frozen 0
  have f1 := hR3.frozen 1
  go_wp2
  have hR4 := hR3.two (.bool true) (.slice A3 n3 c3)
  refine bodyPost_ret (v := .agg #[.bool true, .slice A3 n3 c3]) (by simp [results, Tryz.results44, go_sem, hR4.c0, hR4.c1]) rfl ?_
  exact ⟨_, rfl, hr3.two hR3 rfl rfl rfl, (hk'.set (by simp) _).set (by simp) _⟩
 ·have hz' : 0 ≤ z := by omega
  have HD := Lib.hid (decide_eq_false hz)
  obtain ⟨m, rfl⟩ := Int.eq_ofNat_of_zero_le hz'
  go_enter Tryz.func44, Tryz.ntmps44
  go_wp2_with fail
  refine (split_any m _ (by omega)).mono ?_
  rintro e w1 ⟨v1, rfl, hv1, hk1⟩
  go_wp2_with fail
  refine (made_d false v1 _ _ hv1).mono ?_
  rintro e w3 ⟨V3, rfl, hr3, hk3⟩
  rw [show sgn false m = (m : Int) by rfl] at hr3
  have hR3 := (hR.below hk1).below hk3
  have hk' := (hk.trans' hk1).trans' hk3
  obtain ⟨A3, n3, c3, rfl, hv3⟩ := hr3.open_
  rw [HD.out] at hr3 ⊢
  have r0 := hR3.c0
  have r1 := hR3.c1
  have f0 := hR3.frozen 0
  have f1 := hR3.frozen 1
  go_wp2
  have hR4 := hR3.two (.bool false) (.slice A3 n3 c3)
  refine bodyPost_ret (v := .agg #[.bool false, .slice A3 n3 c3]) (by simp [results, Tryz.results44, go_sem, hR4.c0, hR4.c1]) rfl ?_
  exact ⟨_, rfl, hr3.two hR3 rfl rfl rfl, (hk'.set (by simp) _).set (by simp) _⟩

set_option maxRecDepth 100000 in
set_option maxHeartbeats 400000 in
theorem rof_any (z : Int) (w : World) (h1 : -9223372036854775808 ≤ z) (h2 : z ≤ 9223372036854775807) :
 Calls Tryz.prog 110 #[.int .i64 z] w fun e w' => ∃ V, e = .returned V ∧ IntRep w' V z ∧ Keeps w w' := by
 obtain ⟨i0, hi, hz0, hz1, hz2⟩ := info_parts info_u32
 have hR := Own.new w 29 [.bool false, .slice none 0 0]
 have HA := Lib.hid (sgn_abs z)
 have hm0 : z.natAbs ≤ 9223372036854775808 := by omega
 have hd3 : (dig z.natAbs).length ≤ 3 := dig_length_le (by omega)
 by_cases hz : z < 0
 ·have HD := Lib.hid (decide_eq_true hz)
  have HSG := Lib.hid (show sgn true z.natAbs = z by rw [← HD.out]; exact HA.out)
  have e1 : -(z + 1) + 1 = ((z.natAbs : Nat) : Int) := by omega
  have HE := Lib.hid e1
  clear e1
  go_enter Tryz.func110, Tryz.ntmps110
  go_wp2
  rw [HE.out]
  have hown := made2 w (.cells #[.bool false, .slice none 0 0] 29) 109
  have hR1 := hR.alloc (.cells #[] 109)
  have hk0 := keep2 w (.cells #[.bool false, .slice none 0 0] 29) (.cells #[] 109)
  go_loopw [3, 4] (fun x g wr => ∃ (k : Nat) (out : List Nat), k ≤ z.natAbs ∧ x = .int .u64 (k : Nat) ∧ out ++ dig k = dig z.natAbs ∧ wr.ownsRow (w.heap.size + 1) 109 1 g out.length (u32s out) ∧ Own wr w.heap.size 29 [.bool false, .slice none 0 0] ∧ Keeps w wr)
   (fun x _ _ => (intOf x).toNat)
  case atStart => exact ⟨z.natAbs, [], Nat.le_refl _, rfl, rfl, hown, hR1, hk0⟩
  case round =>
   obtain ⟨k, out, hk, rfl, hd, hown, hR2, hk1⟩ := hrel
   by_cases hpos : 0 < k
   ·have hol : out.length ≤ 2 := by
     have := congrArg List.length hd
     rw [List.length_append] at this
     have := dig_length_pos.2 (show k ≠ 0 by omega)
     omega
    rw [dig_pos (by omega)] at hd
    have HDD := Lib.hid hd
    clear hd
    go_wp2_with (at_builtin; refine wpList_append_own _ rfl _ _ 27 rfl (w.heap.size + 1) 109 i0 (.int .u32 0) 1 4 Tryz.underlying27 hi hz0 hz1 hz2 rfl (by decide) _ _ _ rfl (hown.alloc _) ⟨wr.heap.size, 0, none⟩ 1 1 [.int .u32 ((k : Int) % 1000000000)] rfl rfl (newcell _ _ _) (by simp [Value.oneCell']) (by simp only [maxLen]; omega) (by omega) (by have := hR2.lt; simp; omega) ?_; intro v' w1 hown' hgrow _)
    rw [u32s_snoc out (k % 1000000000) (by omega)] at hown'
    have hk2 : Keeps w w1 := (hk1.alloc hk1.size _).grown hgrow (by have := hk1.size; simp; omega) (fun b e => by have := (hown.lt b e).1; omega)
    have hR3 := (hR2.alloc _).grown hgrow (fun e => by have := (hown.lt _ e.symm).1; omega)
    go_roundw
    case rel => exact ⟨k / 1000000000, out ++ [k % 1000000000], by omega, by go_num, by rw [List.append_assoc]; exact HDD.out, by simpa using hown', hR3, hk2⟩
    case measure => simp [intOf]; omega
   ·obtain rfl : k = 0 := by omega
    rw [dig_zero, List.append_nil] at hd
    have HDD := Lib.hid hd
    clear hd
    have hu := U32.of_own hown
    go_wp2_with fail
    refine (rmade_u true _ _ _ hu (by rw [HDD.out]; exact AllB.dig _) (by rw [HDD.out]; omega)).mono ?_
    rintro e w3 ⟨V3, rfl, hr3, hk3⟩
    rw [HDD.out, val_dig] at hr3
    rw [HSG.out] at hr3
    have hR3 := hR2.below hk3
    have hk' := hk1.trans' hk3
    obtain ⟨A3, n3, c3, rfl, hv3⟩ := hr3.open_
    rw [HD.out] at hr3 ⊢
    have r0 := hR3.c0
    have r1 := hR3.c1
    have f0 := hR3.frozen 0
    have f1 := hR3.frozen 1
    go_wp2
    have hR4 := hR3.two (.bool true) (.slice A3 n3 c3)
    refine bodyPost_ret (v := .agg #[.bool true, .slice A3 n3 c3]) (by simp [results, Tryz.results110, go_sem, hR4.c0, hR4.c1]) rfl ?_
    exact ⟨_, rfl, hr3.two hR3 rfl rfl rfl, (hk'.set (by simp) _).set (by simp) _⟩
 ·have hz' : 0 ≤ z := by omega
  have HD := Lib.hid (decide_eq_false hz)
  obtain ⟨m, rfl⟩ := Int.eq_ofNat_of_zero_le hz'
  have HSG := Lib.hid (show sgn false m = (m : Int) by rfl)
  rw [show ((m : Int)).natAbs = m by simp] at hd3 hm0
  go_enter Tryz.func110, Tryz.ntmps110
  go_wp2
  have hown := made2 w (.cells #[.bool false, .slice none 0 0] 29) 109
  have hR1 := hR.alloc (.cells #[] 109)
  have hk0 := keep2 w (.cells #[.bool false, .slice none 0 0] 29) (.cells #[] 109)
  go_loopw [3, 4] (fun x g wr => ∃ (k : Nat) (out : List Nat), k ≤ m ∧ x = .int .u64 (k : Nat) ∧ out ++ dig k = dig m ∧ wr.ownsRow (w.heap.size + 1) 109 1 g out.length (u32s out) ∧ Own wr w.heap.size 29 [.bool false, .slice none 0 0] ∧ Keeps w wr)
   (fun x _ _ => (intOf x).toNat)
  case atStart => exact ⟨m, [], Nat.le_refl _, rfl, rfl, hown, hR1, hk0⟩
  case round =>
   obtain ⟨k, out, hk, rfl, hd, hown, hR2, hk1⟩ := hrel
   by_cases hpos : 0 < k
   ·have hol : out.length ≤ 2 := by
     have := congrArg List.length hd
     rw [List.length_append] at this
     have := dig_length_pos.2 (show k ≠ 0 by omega)
     omega
    rw [dig_pos (by omega)] at hd
    have HDD := Lib.hid hd
    clear hd
    go_wp2_with (at_builtin; refine wpList_append_own _ rfl _ _ 27 rfl (w.heap.size + 1) 109 i0 (.int .u32 0) 1 4 Tryz.underlying27 hi hz0 hz1 hz2 rfl (by decide) _ _ _ rfl (hown.alloc _) ⟨wr.heap.size, 0, none⟩ 1 1 [.int .u32 ((k : Int) % 1000000000)] rfl rfl (newcell _ _ _) (by simp [Value.oneCell']) (by simp only [maxLen]; omega) (by omega) (by have := hR2.lt; simp; omega) ?_; intro v' w1 hown' hgrow _)
    rw [u32s_snoc out (k % 1000000000) (by omega)] at hown'
    have hk2 : Keeps w w1 := (hk1.alloc hk1.size _).grown hgrow (by have := hk1.size; simp; omega) (fun b e => by have := (hown.lt b e).1; omega)
    have hR3 := (hR2.alloc _).grown hgrow (fun e => by have := (hown.lt _ e.symm).1; omega)
    go_roundw
    case rel => exact ⟨k / 1000000000, out ++ [k % 1000000000], by omega, by go_num, by rw [List.append_assoc]; exact HDD.out, by simpa using hown', hR3, hk2⟩
    case measure => simp [intOf]; omega
   ·obtain rfl : k = 0 := by omega
    rw [dig_zero, List.append_nil] at hd
    have HDD := Lib.hid hd
    clear hd
    have hu := U32.of_own hown
    go_wp2_with fail
    refine (rmade_u false _ _ _ hu (by rw [HDD.out]; exact AllB.dig _) (by rw [HDD.out]; omega)).mono ?_
    rintro e w3 ⟨V3, rfl, hr3, hk3⟩
    rw [HDD.out, val_dig] at hr3
    rw [HSG.out] at hr3
    have hR3 := hR2.below hk3
    have hk' := hk1.trans' hk3
    obtain ⟨A3, n3, c3, rfl, hv3⟩ := hr3.open_
    rw [HD.out] at hr3 ⊢
    have r0 := hR3.c0
    have r1 := hR3.c1
    have f0 := hR3.frozen 0
    have f1 := hR3.frozen 1
    go_wp2
    have hR4 := hR3.two (.bool false) (.slice A3 n3 c3)
    refine bodyPost_ret (v := .agg #[.bool false, .slice A3 n3 c3]) (by simp [results, Tryz.results110, go_sem, hR4.c0, hR4.c1]) rfl ?_
    exact ⟨_, rfl, hr3.two hR3 rfl rfl rfl, (hk'.set (by simp) _).set (by simp) _⟩
end Go.Proofs.YtgcigdahjabimaaGreatDoor
