/- The walks of fraction.Valid, copied, Whole, Value. -/
import Derived.Test.YtgcigdahjabimaaGreatDoorPk23
import Derived.Test.YtgcigdahjabimaaGreatDoorPk12
namespace Go.Proofs.YtgcigdahjabimaaGreatDoor
open Go.RowKit Go.Shelf

set_option maxRecDepth 100000 in
set_option maxHeartbeats 1000000 in
theorem fvalid_any {w : World} {V : Value} {n1 n2 : Bool} {xs ys : List Nat} (h : RatArg w V n1 xs n2 ys) (l1 : xs.length ≤ 100000) (l2 : ys.length ≤ 100000) :
 Calls Tryz.prog 41 #[V] w fun e w' => e = .returned (.bool (rvalidB n1 xs n2 ys)) ∧ Keeps w w' := by
 obtain ⟨A1, m1, c1, A2, m2, c2, rfl⟩ := h.open_
 have S := ((((St.start w).addA h.a1).addA h.a2).alloc 31 [.bool n1, .slice A1 m1 c1, .bool n2, .slice A2 m2 c2])
 have HV := Lib.hid (rfl : rvalidB n1 xs n2 ys = rvalidB n1 xs n2 ys)
 clear HV
 obtain ⟨vb, hvb⟩ : ∃ vb, rvalidB n1 xs n2 ys = vb := ⟨_, rfl⟩
 rw [hvb]
 unfold rvalidB at hvb
 have HB := Lib.hid hvb
 clear hvb
 go_enter Tryz.func41, Tryz.ntmps41
 go_wp2_with fail
 generalize w.alloc (.cells #[.bool n1, .slice A1 m1 c1, .bool n2, .slice A2 m2 c2] 31) = W at *
 refine (valid_num n1 xs _ _ (S.ai 1 rfl) (by omega)).mono ?_
 rintro e W1 ⟨rfl, hk⟩
 replace S := S.below hk
 clear hk h
 cases hv1 : validB n1 xs with
 | false =>
  have HV := Lib.hid (show vb = false by rw [← HB.out, hv1]; rfl)
  clear hv1
  go_wp2
  go_ret
  exact ⟨by rw [HV.out]; rfl, S.k⟩
 | true =>
  obtain ⟨r0, r1, r2, r3⟩ := S.cc4 0 rfl
  have H1 := Lib.hid hv1
  clear hv1
  go_wp2_with fail
  refine (valid_num n2 ys _ _ (S.ai 0 rfl) (by omega)).mono ?_
  rintro e W2 ⟨rfl, hk⟩
  replace S := S.below hk
  clear hk r0 r1 r2 r3
  cases hv2 : validB n2 ys with
  | false =>
   have HV := Lib.hid (show vb = false by rw [← HB.out, H1.out, hv2]; rfl)
   clear hv2
   go_wp2
   go_ret
   exact ⟨by rw [HV.out]; rfl, S.k⟩
  | true =>
   obtain ⟨r0, r1, r2, r3⟩ := S.cc4 0 rfl
   have H2 := Lib.hid hv2
   clear hv2
   have N1 := (S.ai 1 rfl).nn (by omega)
   have N2 := (S.ai 0 rfl).nn (by omega)
   replace S := (S.addN N1).addN N2
   clear N1 N2
   rw [H1.out, H2.out] at HB
   have lx := lenI_cnt n1 xs
   have ly := lenI_cnt n2 ys
   generalize cnt n1 xs = a at *
   generalize cnt n2 ys = b at *
   have HB2 := Lib.hid (show (decide (0 < b) && decide (Int.gcd a b = 1)) = vb by simpa using HB.out)
   clear HB
   go_wp2_with fail
   rcases Int.lt_trichotomy b 0 with hb | hb | hb
   ·refine (sign_s (S.ni 0 rfl) (Int.sign_eq_neg_one_of_neg hb)).mono ?_
    rintro e W3 ⟨rfl, hk⟩
    replace S := S.below hk
    have HV := Lib.hid (show vb = false by rw [← HB2.out, decide_eq_false (by omega)]; rfl)
    clear hk r0 r1 r2 r3 hb
    go_wp2
    go_ret
    exact ⟨by rw [HV.out]; rfl, S.k⟩
   ·refine (sign_s (S.ni 0 rfl) (by rw [hb]; rfl : b.sign = 0)).mono ?_
    rintro e W3 ⟨rfl, hk⟩
    replace S := S.below hk
    have HV := Lib.hid (show vb = false by rw [← HB2.out, decide_eq_false (by omega)]; rfl)
    clear hk r0 r1 r2 r3 hb
    go_wp2
    go_ret
    exact ⟨by rw [HV.out]; rfl, S.k⟩
   ·refine (sign_s (S.ni 0 rfl) (Int.sign_eq_one_of_pos hb)).mono ?_
    rintro e W3 ⟨rfl, hk⟩
    replace S := S.below hk
    have HB3 := Lib.hid (show decide (Int.gcd a b = 1) = vb by rw [← HB2.out, decide_eq_true hb]; rfl)
    have hgl := lenI_gcd (a := a) hb
    clear hk r0 r1 r2 r3 hb HB2
    obtain ⟨r0, r1, r2, r3⟩ := S.cc4 0 rfl
    go_wp2_with fail
    refine (gcd_num (S.ni 1 rfl) (S.ni 0 rfl)).mono ?_
    rintro e W4 ⟨U1, rfl, hp, hk⟩
    replace S := (S.below hk).addN (hp.num (by omega))
    clear hk hp
    go_wp2_with fail
    refine (of_num 1 (by omega) (by omega)).mono ?_
    rintro e W5 ⟨U2, rfl, hp, hk⟩
    replace S := (S.below hk).addN (hp.num (by have := lenI_one; omega))
    clear hk hp r0 r1 r2 r3
    go_wp2_with fail
    by_cases hg : Int.gcd a b = 1
    ·refine (icompare_s (S.ni 1 rfl) (S.ni 0 rfl) (by rw [hg]; rfl : ((Int.gcd a b : Nat) - 1 : Int).sign = 0)).mono ?_
     rintro e W6 ⟨rfl, hk⟩
     replace S := S.below hk
     have HV := Lib.hid (show vb = true by rw [← HB3.out]; exact decide_eq_true hg)
     clear hk hg
     go_wp2
     go_ret
     exact ⟨by rw [HV.out]; rfl, S.k⟩
    ·obtain ⟨s, hs⟩ : ∃ s, ((Int.gcd a b : Nat) - 1 : Int).sign = s := ⟨_, rfl⟩
     have hs0 : s ≠ 0 := by
      intro e
      rw [← hs, Int.sign_eq_zero_iff_zero] at e
      omega
     have hsb : (s == 0) = false := by simpa using hs0
     refine (icompare_s (S.ni 1 rfl) (S.ni 0 rfl) hs).mono ?_
     rintro e W6 ⟨rfl, hk⟩
     replace S := S.below hk
     have HV := Lib.hid (show vb = false by rw [← HB3.out]; exact decide_eq_false hg)
     clear hk hg hs hs0
     go_wp2
     go_ret
     exact ⟨by rw [HV.out]; rfl, S.k⟩

set_option maxRecDepth 100000 in
set_option maxHeartbeats 1000000 in
theorem copied_any {w : World} {V : Value} {n1 n2 : Bool} {xs ys : List Nat} (h : RatArg w V n1 xs n2 ys) (l1 : xs.length ≤ 100000) (l2 : ys.length ≤ 100000) (hv : rvalidB n1 xs n2 ys = true) :
 Calls Tryz.prog 135 #[V] w (RGives (rcnt n1 xs n2 ys) w) := by
 obtain ⟨A1, m1, c1, A2, m2, c2, rfl⟩ := h.open_
 obtain ⟨e1, e2⟩ := rcnt_true hv
 have lx := lenI_cnt n1 xs
 have ly := lenI_cnt n2 ys
 have S := (((((St.start w).addN (h.a1.nn (by omega))).addN (h.a2.nn (by omega))).alloc 31 [.bool n1, .slice A1 m1 c1, .bool n2, .slice A2 m2 c2])).alloc 31 [.bool false, .slice none 0 0, .bool false, .slice none 0 0]
 simp only [World.size_alloc] at S
 have E1 := Lib.hid e1.symm
 have E2 := Lib.hid e2.symm
 generalize rcnt n1 xs n2 ys = q at *
 generalize cnt n1 xs = a at *
 generalize cnt n2 ys = b at *
 have la := lenI_neg a
 have lb := lenI_neg b
 clear e1 e2 h hv
 go_enter Tryz.func135, Tryz.ntmps135
 go_wp2_with fail
 generalize (w.alloc (.cells #[.bool n1, .slice A1 m1 c1, .bool n2, .slice A2 m2 c2] 31)).alloc (.cells #[.bool false, .slice none 0 0, .bool false, .slice none 0 0] 31) = W at *
 refine wp_region_steps (m := 8) rfl (by kernel_rfl) (fun iF vF wF => (List.getD [fun vF _ => vF = .pointer (some ⟨w.heap.size, 0, none⟩), fun vF _ => vF = .agg #[.bool n1, .slice A1 m1 c1], fun vF wF => IntRep wF vF (-a), fun vF wF => IntRep wF vF (a), fun vF _ => vF = .pointer (some ⟨w.heap.size, 2, none⟩), fun vF _ => vF = .agg #[.bool n2, .slice A2 m2 c2], fun vF wF => IntRep wF vF (-b), fun vF wF => IntRep wF vF (b)] iF (fun _ _ => True)) vF wF) [] ?_ ?_ ?_
 ·intro i v w w' hi h hk
  rcases (show i = 0 ∨ i = 1 ∨ i = 2 ∨ i = 3 ∨ i = 4 ∨ i = 5 ∨ i = 6 ∨ i = 7 by omega) with rfl | rfl | rfl | rfl | rfl | rfl | rfl | rfl
  all_goals simp only [gz, gs] at h ⊢
  all_goals first | exact h | exact IntRep.below h hk | exact RatRep.below h hk
 ·intro i hi vs w3 hk3 hd
  have S3 := S.drew.below hk3
  obtain ⟨a0, a1, a2, a3⟩ := S3.cc4 1 rfl
  match i, hi with
  | 0, _ =>
   refine step_yes [] rfl (by kernel_rfl) fun K hK => ?_; simp only [frD] at hK ⊢; refine ⟨by rfl, ?_⟩; go_simp
   exact hK _ _ ⟨Below.refl _ _, rfl, by simp⟩
  | 1, _ =>
   have e0 := hd 0 (cm (by kernel_rfl)); simp only [gz] at e0
   refine step_yes [(0, some 3)] rfl (by kernel_rfl) fun K hK => ?_; simp only [frD, e0] at hK ⊢; refine ⟨by rfl, ?_⟩; go_simp
   exact hK _ _ ⟨Below.refl _ _, rfl, by simp⟩
  | 2, _ =>
   have e1 := hd 1 (cm (by kernel_rfl)); simp only [gz, gs] at e1
   refine step_yes [(1, some 4)] rfl (by kernel_rfl) fun K hK => ?_; simp only [frD, e1] at hK ⊢; refine ⟨by rfl, ?_⟩; go_simp
   refine (neg_num (S3.ni 1 rfl)).mono ?_; rintro e w4 ⟨U, rfl, hr, hk4⟩; exact hK _ _ ⟨hk4, hr, by simp⟩
  | 3, _ =>
   have h2 := hd 2 (cm (by kernel_rfl)); simp only [gz, gs] at h2
   refine step_yes [(2, some 5)] rfl (by kernel_rfl) fun K hK => ?_; simp only [frD] at hK ⊢; refine ⟨by rfl, ?_⟩; go_simp
   refine (gives_eq (neg_num (h2.num (by omega))) (Int.neg_neg a)).mono ?_; rintro e w4 ⟨U, rfl, hr, hk4⟩; exact hK _ _ ⟨hk4, hr, by simp⟩
  | 4, _ =>
   refine step_yes [] rfl (by kernel_rfl) fun K hK => ?_; simp only [frD] at hK ⊢; refine ⟨by rfl, ?_⟩; go_simp
   exact hK _ _ ⟨Below.refl _ _, rfl, by simp⟩
  | 5, _ =>
   have e4 := hd 4 (cm (by kernel_rfl)); simp only [gz, gs] at e4
   refine step_yes [(4, some 7)] rfl (by kernel_rfl) fun K hK => ?_; simp only [frD, e4] at hK ⊢; refine ⟨by rfl, ?_⟩; go_simp
   exact hK _ _ ⟨Below.refl _ _, rfl, by simp⟩
  | 6, _ =>
   have h3 := hd 3 (cm (by kernel_rfl)); simp only [gz, gs] at h3; have e5 := hd 5 (cm (by kernel_rfl)); simp only [gz, gs] at e5
   refine step_yes [(3, some 6), (5, some 8)] rfl (by kernel_rfl) fun K hK => ?_; simp only [frD, e5] at hK ⊢; refine ⟨by rfl, ?_⟩; go_simp
   refine (neg_num (S3.ni 0 rfl)).mono ?_; rintro e w4 ⟨U, rfl, hr, hk4⟩; exact hK _ _ ⟨hk4, hr, by simp⟩
  | 7, _ =>
   have h6 := hd 6 (cm (by kernel_rfl)); simp only [gz, gs] at h6
   refine step_yes [(6, some 9)] rfl (by kernel_rfl) fun K hK => ?_; simp only [frD] at hK ⊢; refine ⟨by rfl, ?_⟩; go_simp
   refine (gives_eq (neg_num (h6.num (by omega))) (Int.neg_neg b)).mono ?_; rintro e w4 ⟨U, rfl, hr, hk4⟩; exact hK _ _ ⟨hk4, hr, by simp⟩
  | i + 8, hi => exact absurd hi (by omega)
 ·intro vs wph hk3 hΦ _
  simp only [List.drop_succ_cons, List.drop_zero]
  rw [fr_frD, show (List.range 8).map _ = [(0, some 3), (1, some 4), (2, some 5), (3, some 6), (4, some 7), (5, some 8), (6, some 9), (7, some 10)] by kernel_rfl]
  have ph0 := hΦ 0 (by omega); simp only [gz] at ph0
  have ph1 := hΦ 1 (by omega); simp only [gz, gs] at ph1
  have ph2 := hΦ 2 (by omega); simp only [gz, gs] at ph2
  have ph3 := hΦ 3 (by omega); simp only [gz, gs] at ph3
  have ph4 := hΦ 4 (by omega); simp only [gz, gs] at ph4
  have ph5 := hΦ 5 (by omega); simp only [gz, gs] at ph5
  have ph6 := hΦ 6 (by omega); simp only [gz, gs] at ph6
  have ph7 := hΦ 7 (by omega); simp only [gz, gs] at ph7
  clear hΦ
  simp only [frD, ph0, ph1, ph4, ph5]
  simp only [Act.put, List.setIfInBounds_toArray, List.set_cons_zero, List.set_cons_succ]
  clear ph0 ph1 ph4 ph5
  generalize vs 2 = U2 at ph2 ⊢
  generalize vs 3 = U3 at ph3 ⊢
  generalize vs 6 = U6 at ph6 ⊢
  generalize vs 7 = U7 at ph7 ⊢
  replace S := S.drew.below hk3
  obtain ⟨b3, A3, n3, c3, rfl⟩ := ph3.open3
  obtain ⟨b4, A4, n4, c4, rfl⟩ := ph7.open3
  replace S := (S.addI ph3).addI ph7
  clear ph2 ph3 ph6 ph7 hk3
  obtain ⟨r0_0, r0_1, r0_2, r0_3⟩ := S.cc4 0 rfl
  obtain ⟨f0_0, f0_1, f0_2, f0_3⟩ := S.ff4 0 rfl
  go_wp2
  replace S := S.put4 0 rfl rfl rfl (x' := .bool b3) (y' := .slice A3 n3 c3) (z' := .bool b4) (u' := .slice A4 n4 c4)
  refine bodyPost_ret (v := .agg #[.bool b3, .slice A3 n3 c3, .bool b4, .slice A4 n4 c4]) (by simp [results, Tryz.results135, go_sem, S.c 0 0 rfl rfl, S.c 0 1 rfl rfl, S.c 0 2 rfl rfl, S.c 0 3 rfl rfl]) rfl ?_
  exact ⟨_, rfl, RatRep.mk (S.ii 1 rfl) (S.ii 0 rfl) E1.out E2.out, S.k⟩

set_option maxRecDepth 100000 in
set_option maxHeartbeats 1000000 in
theorem whole_num {w : World} (z : Int) (h1 : -9223372036854775808 ≤ z) (h2 : z ≤ 9223372036854775807) : Calls Tryz.prog 42 #[.int .i64 z] w (RGives (z : Rat) w) := by
 have S := (St.start w).alloc 31 [.bool false, .slice none 0 0, .bool false, .slice none 0 0]
 go_enter Tryz.func42, Tryz.ntmps42
 go_wp2_with fail
 generalize w.alloc (.cells #[.bool false, .slice none 0 0, .bool false, .slice none 0 0] 31) = W at *
 refine (of_num z h1 h2).mono ?_
 rintro e W1 ⟨U1, rfl, hp, hk⟩
 obtain ⟨b3, A3, n3, c3, rfl⟩ := hp.open3
 replace S := (S.below hk).addI hp
 clear hk hp
 go_wp2_with fail
 refine (of_num 1 (by omega) (by omega)).mono ?_
 rintro e W2 ⟨U2, rfl, hp, hk⟩
 obtain ⟨b4, A4, n4, c4, rfl⟩ := hp.open3
 replace S := (S.below hk).addI hp
 clear hk hp
 obtain ⟨r0_0, r0_1, r0_2, r0_3⟩ := S.cc4 0 rfl
 obtain ⟨f0_0, f0_1, f0_2, f0_3⟩ := S.ff4 0 rfl
 go_wp2
 replace S := S.put4 0 rfl rfl rfl (x' := .bool b3) (y' := .slice A3 n3 c3) (z' := .bool b4) (u' := .slice A4 n4 c4)
 refine bodyPost_ret (v := .agg #[.bool b3, .slice A3 n3 c3, .bool b4, .slice A4 n4 c4]) (by simp [results, Tryz.results42, go_sem, S.c 0 0 rfl rfl, S.c 0 1 rfl rfl, S.c 0 2 rfl rfl, S.c 0 3 rfl rfl]) rfl ?_
 exact ⟨_, rfl, RatRep.whole (S.ii 1 rfl) (S.ii 0 rfl), S.k⟩

set_option maxRecDepth 100000 in
set_option maxHeartbeats 1000000 in
theorem fvalue_num {w : World} {V : Value} {q : Rat} (h : RatNum w V q) : Calls Tryz.prog 92 #[V] w (RGives q w) := by
 obtain ⟨n1, xs, n2, ys, h, rfl, l1, l2⟩ := h
 obtain ⟨A1, m1, c1, A2, m2, c2, rfl⟩ := h.open_
 have S := ((St.start w).alloc 31 [.bool n1, .slice A1 m1 c1, .bool n2, .slice A2 m2 c2]).alloc 31 [.bool false, .slice none 0 0, .bool false, .slice none 0 0]
 simp only [World.size_alloc] at S
 have HA := Lib.hid h
 clear h
 go_enter Tryz.func92, Tryz.ntmps92
 go_wp2_with fail
 generalize (w.alloc (.cells #[.bool n1, .slice A1 m1 c1, .bool n2, .slice A2 m2 c2] 31)).alloc (.cells #[.bool false, .slice none 0 0, .bool false, .slice none 0 0] 31) = W at *
 refine (fvalid_any (HA.out.below S.k) l1 l2).mono ?_
 rintro e W1 ⟨rfl, hk⟩
 replace S := S.below hk
 clear hk
 cases hv : rvalidB n1 xs n2 ys with
 | true =>
  have HV := Lib.hid hv
  clear hv
  obtain ⟨r1_0, r1_1, r1_2, r1_3⟩ := S.cc4 1 rfl
  go_wp2_with fail
  refine (copied_any (HA.out.below S.k) l1 l2 HV.out).mono ?_
  rintro e W2 ⟨U, rfl, hp, hk⟩
  obtain ⟨b3, A3, n3, c3, b4, A4, n4, c4, rfl⟩ := hp.open_
  replace S := (S.below hk).addQ hp
  clear hk hp r1_0 r1_1 r1_2 r1_3
  obtain ⟨r0_0, r0_1, r0_2, r0_3⟩ := S.cc4 0 rfl
  obtain ⟨f0_0, f0_1, f0_2, f0_3⟩ := S.ff4 0 rfl
  go_wp2
  replace S := S.put4 0 rfl rfl rfl (x' := .bool b3) (y' := .slice A3 n3 c3) (z' := .bool b4) (u' := .slice A4 n4 c4)
  refine bodyPost_ret (v := .agg #[.bool b3, .slice A3 n3 c3, .bool b4, .slice A4 n4 c4]) (by simp [results, Tryz.results92, go_sem, S.c 0 0 rfl rfl, S.c 0 1 rfl rfl, S.c 0 2 rfl rfl, S.c 0 3 rfl rfl]) rfl ?_
  exact ⟨_, rfl, S.qi 0 rfl, S.k⟩
 | false =>
  have HZ := Lib.hid (rcnt_false hv)
  clear hv
  go_wp2_with fail
  refine (whole_num 0 (by omega) (by omega)).mono ?_
  rintro e W2 ⟨U, rfl, hp, hk⟩
  obtain ⟨b3, A3, n3, c3, b4, A4, n4, c4, rfl⟩ := hp.open_
  replace S := (S.below hk).addQ hp
  clear hk hp
  obtain ⟨r0_0, r0_1, r0_2, r0_3⟩ := S.cc4 0 rfl
  obtain ⟨f0_0, f0_1, f0_2, f0_3⟩ := S.ff4 0 rfl
  go_wp2
  replace S := S.put4 0 rfl rfl rfl (x' := .bool b3) (y' := .slice A3 n3 c3) (z' := .bool b4) (u' := .slice A4 n4 c4)
  refine bodyPost_ret (v := .agg #[.bool b3, .slice A3 n3 c3, .bool b4, .slice A4 n4 c4]) (by simp [results, Tryz.results92, go_sem, S.c 0 0 rfl rfl, S.c 0 1 rfl rfl, S.c 0 2 rfl rfl, S.c 0 3 rfl rfl]) rfl ?_
  exact ⟨_, rfl, by rw [HZ.out]; exact S.qi 0 rfl, S.k⟩
end Go.Proofs.YtgcigdahjabimaaGreatDoor
