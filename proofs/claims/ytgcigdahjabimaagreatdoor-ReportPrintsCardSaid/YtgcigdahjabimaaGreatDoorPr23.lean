/- The walks of fraction.counted, New, Of. The walks of fiducialref02.whole, Valid, Whole, Value. -/
import Derived.Test.YtgcigdahjabimaaGreatDoorPr20
import Derived.Test.YtgcigdahjabimaaGreatDoorPr22
namespace Go.Proofs.YtgcigdahjabimaaGreatDoor
open Go.RowKit Go.Shelf

theorem IntArg.rep {w : World} {V : Value} {n : Bool} {xs : List Nat} (h : IntArg w V n xs) (hv : validB n xs = true) : IntRep w V (cnt n xs) := by
 obtain ⟨v, rfl, hu⟩ := h
 have hd := dig_mag hv
 refine ⟨v, ?_, by rw [cnt_abs, hd]; exact hu⟩
 have e : n = decide (cnt n xs < 0) := by
  cases n with
  | false =>
   have : ¬ cnt false xs < 0 := by unfold cnt sgn; simp
   exact (decide_eq_false this).symm
  | true =>
   have h0 : mag true xs ≠ 0 := fun e => by
    rw [e, dig_zero] at hd
    rw [← hd] at hv
    exact absurd hv (by decide)
   have : cnt true xs < 0 := by unfold cnt sgn; simp; omega
   exact (decide_eq_true this).symm
 conv => lhs; rw [e]
theorem cnt_not {n : Bool} {xs : List Nat} (h : validB n xs = false) : cnt n xs = 0 := by
 unfold cnt mag
 rw [if_neg (by rw [h]; decide)]
 cases n <;> rfl
set_option maxRecDepth 100000 in
set_option maxHeartbeats 1000000 in
theorem counted_num {w : World} {V : Value} {z : Int} (h : IntNum w V z) : Calls Tryz.prog 160 #[V] w (Gives z w) := by
 obtain ⟨n1, xs, h, rfl, l1⟩ := h
 obtain ⟨v, rfl, hv⟩ := h
 obtain ⟨A1, m1, c1, rfl, -⟩ := hv.open_
 have h1 : IntArg w (.agg #[.bool n1, .slice A1 m1 c1]) n1 xs := ⟨_, rfl, hv⟩
 have S := ((St.start w).alloc 29 [.bool n1, .slice A1 m1 c1]).alloc 29 [.bool false, .slice none 0 0]
 simp only [World.size_alloc] at S
 clear hv
 go_enter Tryz.func160, Tryz.ntmps160
 go_wp2_with fail
 generalize (w.alloc (.cells #[.bool n1, .slice A1 m1 c1] 29)).alloc (.cells #[.bool false, .slice none 0 0] 29) = W at *
 refine (valid_num n1 xs _ _ (h1.below S.k) l1).mono ?_
 rintro e W1 ⟨rfl, hk⟩
 replace S := S.below hk
 clear hk
 cases hb : validB n1 xs with
 | true =>
  replace S := S.addI ((h1.below S.k).rep hb)
  clear hb h1
  obtain ⟨r1_0, r1_1⟩ := S.cc2 1 rfl
  obtain ⟨r0_0, r0_1⟩ := S.cc2 0 rfl
  obtain ⟨f0_0, f0_1⟩ := S.ff2 0 rfl
  go_wp2
  replace S := S.put2 0 rfl rfl rfl (x' := .bool n1) (y' := .slice A1 m1 c1)
  refine bodyPost_ret (v := .agg #[.bool n1, .slice A1 m1 c1]) (by simp [results, Tryz.results160, go_sem, S.c 0 0 rfl rfl, S.c 0 1 rfl rfl]) rfl ?_
  exact ⟨_, rfl, S.ii 0 rfl, S.k⟩
 | false =>
  have HZ := Lib.hid (cnt_not hb)
  clear hb h1
  go_wp2_with fail
  refine (of_num 0 (by omega) (by omega)).mono ?_
  rintro e W2 ⟨U, rfl, hp, hk⟩
  obtain ⟨b5, A5, n5, c5, rfl⟩ := hp.open3
  replace S := (S.below hk).addI hp
  clear hk hp
  obtain ⟨r0_0, r0_1⟩ := S.cc2 0 rfl
  obtain ⟨f0_0, f0_1⟩ := S.ff2 0 rfl
  go_wp2
  replace S := S.put2 0 rfl rfl rfl (x' := .bool b5) (y' := .slice A5 n5 c5)
  refine bodyPost_ret (v := .agg #[.bool b5, .slice A5 n5 c5]) (by simp [results, Tryz.results160, go_sem, S.c 0 0 rfl rfl, S.c 0 1 rfl rfl]) rfl ?_
  exact ⟨_, rfl, by rw [HZ.out]; exact S.ii 0 rfl, S.k⟩

def newC (b : Int) : Int := if b = 0 then 14 else 0
set_option maxRecDepth 100000 in
set_option maxHeartbeats 1000000 in
theorem fnew_num {w : World} {V1 V2 : Value} {a b : Int} (h1 : IntNum w V1 a) (h2 : IntNum w V2 b) : Calls Tryz.prog 119 #[V1, V2] w (RCode (newC b) (Rat.divInt a b) w) := by
 have la := h1.len
 have lb := h2.len
 obtain ⟨b1, A1, n1, c1, rfl⟩ := h1.open_
 obtain ⟨b2, A2, n2, c2, rfl⟩ := h2.open_
 have S := (((St.start w).alloc 29 [.bool b1, .slice A1 n1 c1]).alloc 29 [.bool b2, .slice A2 n2 c2]).alloc 31 [.bool false, .slice none 0 0, .bool false, .slice none 0 0]
 simp only [World.size_alloc] at S
 go_enter Tryz.func119, Tryz.ntmps119
 go_wp2_with fail
 generalize ((w.alloc (.cells #[.bool b1, .slice A1 n1 c1] 29)).alloc (.cells #[.bool b2, .slice A2 n2 c2] 29)).alloc (.cells #[.bool false, .slice none 0 0, .bool false, .slice none 0 0] 31) = W at *
 refine wp_region_steps (m := 4) rfl (by kernel_rfl) (fun iF vF wF => (List.getD [fun vF _ => vF = .agg #[.bool b1, .slice A1 n1 c1], fun vF wF => IntRep wF vF (a), fun vF _ => vF = .agg #[.bool b2, .slice A2 n2 c2], fun vF wF => IntRep wF vF (b)] iF (fun _ _ => True)) vF wF) [] ?_ ?_ ?_
 ·intro i v w w' hi h hk
  rcases (show i = 0 ∨ i = 1 ∨ i = 2 ∨ i = 3 by omega) with rfl | rfl | rfl | rfl
  all_goals simp only [gz, gs] at h ⊢
  all_goals first | exact h | exact IntRep.below h hk | exact RatRep.below h hk
 ·intro i hi vs w3 hk3 hd
  have S3 := S.drew.below hk3
  obtain ⟨a0, a1⟩ := S3.cc2 2 rfl
  obtain ⟨a2, a3⟩ := S3.cc2 1 rfl
  match i, hi with
  | 0, _ =>
   refine step_yes [] rfl (by kernel_rfl) fun K hK => ?_; simp only [frD] at hK ⊢; refine ⟨by rfl, ?_⟩; go_simp
   exact hK _ _ ⟨Below.refl _ _, rfl, by simp⟩
  | 1, _ =>
   have e0 := hd 0 (cm (by kernel_rfl)); simp only [gz] at e0
   refine step_yes [(0, some 6)] rfl (by kernel_rfl) fun K hK => ?_; simp only [frD, e0] at hK ⊢; refine ⟨by rfl, ?_⟩; go_simp
   refine (counted_num (h1.below S3.k)).mono ?_; rintro e w4 ⟨U, rfl, hr, hk4⟩; exact hK _ _ ⟨hk4, hr, by simp⟩
  | 2, _ =>
   refine step_yes [] rfl (by kernel_rfl) fun K hK => ?_; simp only [frD] at hK ⊢; refine ⟨by rfl, ?_⟩; go_simp
   exact hK _ _ ⟨Below.refl _ _, rfl, by simp⟩
  | 3, _ =>
   have h1 := hd 1 (cm (by kernel_rfl)); simp only [gz, gs] at h1; have e2 := hd 2 (cm (by kernel_rfl)); simp only [gz, gs] at e2
   refine step_yes [(1, some 7), (2, some 8)] rfl (by kernel_rfl) fun K hK => ?_; simp only [frD, e2] at hK ⊢; refine ⟨by rfl, ?_⟩; go_simp
   refine (counted_num (h2.below S3.k)).mono ?_; rintro e w4 ⟨U, rfl, hr, hk4⟩; exact hK _ _ ⟨hk4, hr, by simp⟩
  | i + 4, hi => exact absurd hi (by omega)
 ·intro vs wpa hk3 hΦ _
  simp only [List.drop_succ_cons, List.drop_zero]
  rw [fr_frD, show (List.range 4).map _ = [(0, some 6), (1, some 7), (2, some 8), (3, some 9)] by kernel_rfl]
  have pa0 := hΦ 0 (by omega); simp only [gz] at pa0
  have pa1 := hΦ 1 (by omega); simp only [gz, gs] at pa1
  have pa2 := hΦ 2 (by omega); simp only [gz, gs] at pa2
  have pa3 := hΦ 3 (by omega); simp only [gz, gs] at pa3
  clear hΦ
  simp only [frD, pa0, pa2]
  simp only [Act.put, List.setIfInBounds_toArray, List.set_cons_zero, List.set_cons_succ]
  clear pa0 pa2
  generalize vs 1 = U1 at pa1 ⊢
  generalize vs 3 = U3 at pa3 ⊢
  replace S := S.drew.below hk3
  obtain ⟨b3, A3, n3, c3, rfl⟩ := pa1.open3
  obtain ⟨b4, A4, n4, c4, rfl⟩ := pa3.open3
  replace S := (S.addN (pa1.num la)).addN (pa3.num lb)
  obtain ⟨r2_0, r2_1⟩ := S.cc2 2 rfl
  obtain ⟨r1_0, r1_1⟩ := S.cc2 1 rfl
  obtain ⟨f2_0, f2_1⟩ := S.ff2 2 rfl
  obtain ⟨f1_0, f1_1⟩ := S.ff2 1 rfl
  go_upto_region 2 with fail
  replace S := (S.put2 2 rfl rfl rfl (x' := .bool b3) (y' := .slice A3 n3 c3)).put2 1 rfl rfl rfl (x' := .bool b4) (y' := .slice A4 n4 c4)
  generalize (((wpa.setCell ⟨w.heap.size, 0, none⟩ (.bool b3)).setCell ⟨w.heap.size, 1, none⟩ (.slice A3 n3 c3)).setCell ⟨w.heap.size + 1, 0, none⟩ (.bool b4)).setCell ⟨w.heap.size + 1, 1, none⟩ (.slice A4 n4 c4) = W4 at S ⊢
  clear r2_0 r2_1 r1_0 r1_1 f2_0 f2_1 f1_0 f1_1 pa1 pa3 hk3 h1 h2
  obtain ⟨r1_0, r1_1⟩ := S.cc2 1 rfl
  by_cases hb0 : b = 0
  ·have hs : b.sign = 0 := by rw [hb0]; rfl
   have HC := Lib.hid (show newC b = 14 from if_pos hb0)
   clear hb0
   go_wp2_with fail
   refine (sign_s (S.ni 0 rfl) hs).mono ?_
   rintro e W5 ⟨rfl, hk⟩
   replace S := S.below hk
   clear hk hs r1_0 r1_1
   obtain ⟨r0_0, r0_1, r0_2, r0_3⟩ := S.cc4 0 rfl
   obtain ⟨f0_0, f0_1, f0_2, f0_3⟩ := S.ff4 0 rfl
   go_wp2
   replace S := S.put4 0 rfl rfl rfl (x' := .bool false) (y' := .slice none 0 0) (z' := .bool false) (u' := .slice none 0 0)
   refine bodyPost_ret (v := .tuple #[.agg #[.bool false, .slice none 0 0, .bool false, .slice none 0 0], .int .i64 14]) (by simp [results, Tryz.results119, go_sem, S.c 0 0 rfl rfl, S.c 0 1 rfl rfl, S.c 0 2 rfl rfl, S.c 0 3 rfl rfl]) rfl ?_
   exact ⟨_, by rw [HC.out], by rw [HC.out, if_neg (by decide)]; rfl, S.k⟩
  ·obtain ⟨s, hs⟩ : ∃ s, b.sign = s := ⟨_, rfl⟩
   have hs0 : s ≠ 0 := by
    intro e
    rw [← hs, Int.sign_eq_zero_iff_zero] at e
    exact hb0 e
   have hsb : (s == 0) = false := by simpa using hs0
   have HC := Lib.hid (show newC b = 0 from if_neg hb0)
   have HB := Lib.hid hb0
   clear hb0
   go_wp2_with fail
   refine (sign_s (S.ni 0 rfl) hs).mono ?_
   rintro e W5 ⟨rfl, hk⟩
   replace S := S.below hk
   clear hk hs hs0 r1_0 r1_1
   obtain ⟨r1_0, r1_1⟩ := S.cc2 1 rfl
   obtain ⟨r2_0, r2_1⟩ := S.cc2 2 rfl
   go_wp2_with fail
   refine (reduced_num (S.ni 1 rfl) (S.ni 0 rfl) HB.out).mono ?_
   rintro e W6 ⟨U, rfl, hp, hk⟩
   obtain ⟨b5, A5, n5, c5, d5, B5, m5, e5, rfl⟩ := hp.open_
   replace S := (S.below hk).addQ hp
   clear hk hp r1_0 r1_1 r2_0 r2_1
   obtain ⟨r0_0, r0_1, r0_2, r0_3⟩ := S.cc4 0 rfl
   obtain ⟨f0_0, f0_1, f0_2, f0_3⟩ := S.ff4 0 rfl
   go_wp2
   replace S := S.put4 0 rfl rfl rfl (x' := .bool b5) (y' := .slice A5 n5 c5) (z' := .bool d5) (u' := .slice B5 m5 e5)
   refine bodyPost_ret (v := .tuple #[.agg #[.bool b5, .slice A5 n5 c5, .bool d5, .slice B5 m5 e5], .int .i64 0]) (by simp [results, Tryz.results119, go_sem, S.c 0 0 rfl rfl, S.c 0 1 rfl rfl, S.c 0 2 rfl rfl, S.c 0 3 rfl rfl]) rfl ?_
   exact ⟨_, by rw [HC.out], by rw [HC.out, if_pos rfl]; exact S.qi 0 rfl, S.k⟩

theorem rvalid_num (neg : Bool) (xs : List Nat) (V : Value) (w : World) (h : IntArg w V neg xs) (hm : xs.length ≤ 900000) : Calls Tryz.prog 64 #[V] w fun e w' => e = .returned (.bool (validB neg xs)) ∧ Keeps w w' := by
 obtain ⟨v, rfl, hv⟩ := h
 obtain ⟨A, n, c, rfl, e, -, -, -, hr⟩ := hv.open_
 exact rvalid_any neg A n c xs w e hr (by omega)
set_option maxRecDepth 100000 in
set_option maxHeartbeats 1000000 in
theorem whole_int {w : World} (z : Int) (h1 : -9223372036854775808 ≤ z) (h2 : z ≤ 9223372036854775807) : Calls Tryz.prog 68 #[.int .i64 z] w (Gives z w) := by
 have S := (St.start w).alloc 29 [.bool false, .slice none 0 0]
 go_enter Tryz.func68, Tryz.ntmps68
 go_wp2_with fail
 generalize w.alloc (.cells #[.bool false, .slice none 0 0] 29) = W at *
 refine (rof_num z h1 h2).mono ?_
 rintro e W1 ⟨U1, rfl, hp, hk⟩
 obtain ⟨b3, A3, n3, c3, rfl⟩ := hp.open3
 replace S := (S.below hk).addI hp
 clear hk hp
 obtain ⟨r0_0, r0_1⟩ := S.cc2 0 rfl
 obtain ⟨f0_0, f0_1⟩ := S.ff2 0 rfl
 go_wp2
 replace S := S.put2 0 rfl rfl rfl (x' := .bool b3) (y' := .slice A3 n3 c3)
 refine bodyPost_ret (v := .agg #[.bool b3, .slice A3 n3 c3]) (by simp [results, Tryz.results68, go_sem, S.c 0 0 rfl rfl, S.c 0 1 rfl rfl]) rfl ?_
 exact ⟨_, rfl, S.ii 0 rfl, S.k⟩
set_option maxRecDepth 100000 in
set_option maxHeartbeats 1000000 in
theorem gvalid_any {w : World} {V : Value} {n1 n2 : Bool} {xs ys : List Nat} (h : RatArg w V n1 xs n2 ys) (l1 : xs.length ≤ 100000) (l2 : ys.length ≤ 100000) :
 Calls Tryz.prog 27 #[V] w fun e w' => e = .returned (.bool (rvalidB n1 xs n2 ys)) ∧ Keeps w w' := by
 obtain ⟨A1, m1, c1, A2, m2, c2, rfl⟩ := h.open_
 have S := ((((St.start w).addA h.a1).addA h.a2).alloc 31 [.bool n1, .slice A1 m1 c1, .bool n2, .slice A2 m2 c2])
 have HV := Lib.hid (rfl : rvalidB n1 xs n2 ys = rvalidB n1 xs n2 ys)
 clear HV
 obtain ⟨vb, hvb⟩ : ∃ vb, rvalidB n1 xs n2 ys = vb := ⟨_, rfl⟩
 rw [hvb]
 unfold rvalidB at hvb
 have HB := Lib.hid hvb
 clear hvb
 go_enter Tryz.func27, Tryz.ntmps27
 go_wp2_with fail
 generalize w.alloc (.cells #[.bool n1, .slice A1 m1 c1, .bool n2, .slice A2 m2 c2] 31) = W at *
 refine (rvalid_num n1 xs _ _ (S.ai 1 rfl) (by omega)).mono ?_
 rintro e W1 ⟨rfl, hk⟩
 replace S := S.below hk
 clear hk h
 cases hv1 : validB n1 xs with
 | false =>
  have HV := Lib.hid (show vb = false by rw [← HB.out, hv1]; rfl)
  clear hv1
  go_wp2
  go_ret
  exact ⟨by rw [HV.out]; rfl, S.k⟩
 | true =>
  obtain ⟨r0, r1, r2, r3⟩ := S.cc4 0 rfl
  have H1 := Lib.hid hv1
  clear hv1
  go_wp2_with fail
  refine (rvalid_num n2 ys _ _ (S.ai 0 rfl) (by omega)).mono ?_
  rintro e W2 ⟨rfl, hk⟩
  replace S := S.below hk
  clear hk r0 r1 r2 r3
  cases hv2 : validB n2 ys with
  | false =>
   have HV := Lib.hid (show vb = false by rw [← HB.out, H1.out, hv2]; rfl)
   clear hv2
   go_wp2
   go_ret
   exact ⟨by rw [HV.out]; rfl, S.k⟩
  | true =>
   obtain ⟨r0, r1, r2, r3⟩ := S.cc4 0 rfl
   have H2 := Lib.hid hv2
   clear hv2
   have N1 := (S.ai 1 rfl).nn (by omega)
   have N2 := (S.ai 0 rfl).nn (by omega)
   replace S := (S.addN N1).addN N2
   clear N1 N2
   rw [H1.out, H2.out] at HB
   have lx := lenI_cnt n1 xs
   have ly := lenI_cnt n2 ys
   generalize cnt n1 xs = a at *
   generalize cnt n2 ys = b at *
   have HB2 := Lib.hid (show (decide (0 < b) && decide (Int.gcd a b = 1)) = vb by simpa using HB.out)
   clear HB
   go_wp2_with fail
   rcases Int.lt_trichotomy b 0 with hb | hb | hb
   ·refine (rsign_s (S.ni 0 rfl) (Int.sign_eq_neg_one_of_neg hb)).mono ?_
    rintro e W3 ⟨rfl, hk⟩
    replace S := S.below hk
    have HV := Lib.hid (show vb = false by rw [← HB2.out, decide_eq_false (by omega)]; rfl)
    clear hk r0 r1 r2 r3 hb
    go_wp2
    go_ret
    exact ⟨by rw [HV.out]; rfl, S.k⟩
   ·refine (rsign_s (S.ni 0 rfl) (by rw [hb]; rfl : b.sign = 0)).mono ?_
    rintro e W3 ⟨rfl, hk⟩
    replace S := S.below hk
    have HV := Lib.hid (show vb = false by rw [← HB2.out, decide_eq_false (by omega)]; rfl)
    clear hk r0 r1 r2 r3 hb
    go_wp2
    go_ret
    exact ⟨by rw [HV.out]; rfl, S.k⟩
   ·refine (rsign_s (S.ni 0 rfl) (Int.sign_eq_one_of_pos hb)).mono ?_
    rintro e W3 ⟨rfl, hk⟩
    replace S := S.below hk
    have HB3 := Lib.hid (show decide (Int.gcd a b = 1) = vb by rw [← HB2.out, decide_eq_true hb]; rfl)
    have hgl := lenI_gcd (a := a) hb
    clear hk r0 r1 r2 r3 hb HB2
    obtain ⟨r0, r1, r2, r3⟩ := S.cc4 0 rfl
    go_wp2_with fail
    refine (rgcd_num (S.ni 1 rfl) (S.ni 0 rfl)).mono ?_
    rintro e W4 ⟨U1, rfl, hp, hk⟩
    replace S := (S.below hk).addN (hp.num (by omega))
    clear hk hp
    go_wp2_with fail
    refine (whole_int 1 (by omega) (by omega)).mono ?_
    rintro e W5 ⟨U2, rfl, hp, hk⟩
    replace S := (S.below hk).addN (hp.num (by have := lenI_one; omega))
    clear hk hp r0 r1 r2 r3
    go_wp2_with fail
    by_cases hg : Int.gcd a b = 1
    ·refine (rcompare_s (S.ni 1 rfl) (S.ni 0 rfl) (by rw [hg]; rfl : ((Int.gcd a b : Nat) - 1 : Int).sign = 0)).mono ?_
     rintro e W6 ⟨rfl, hk⟩
     replace S := S.below hk
     have HV := Lib.hid (show vb = true by rw [← HB3.out]; exact decide_eq_true hg)
     clear hk hg
     go_wp2
     go_ret
     exact ⟨by rw [HV.out]; rfl, S.k⟩
    ·obtain ⟨s, hs⟩ : ∃ s, ((Int.gcd a b : Nat) - 1 : Int).sign = s := ⟨_, rfl⟩
     have hs0 : s ≠ 0 := by
      intro e
      rw [← hs, Int.sign_eq_zero_iff_zero] at e
      omega
     have hsb : (s == 0) = false := by simpa using hs0
     refine (rcompare_s (S.ni 1 rfl) (S.ni 0 rfl) hs).mono ?_
     rintro e W6 ⟨rfl, hk⟩
     replace S := S.below hk
     have HV := Lib.hid (show vb = false by rw [← HB3.out]; exact decide_eq_false hg)
     clear hk hg hs hs0
     go_wp2
     go_ret
     exact ⟨by rw [HV.out]; rfl, S.k⟩
set_option maxRecDepth 100000 in
set_option maxHeartbeats 1000000 in
theorem gwhole_num {w : World} (z : Int) (h1 : -9223372036854775808 ≤ z) (h2 : z ≤ 9223372036854775807) : Calls Tryz.prog 49 #[.int .i64 z] w (RGives (z : Rat) w) := by
 have S := (St.start w).alloc 31 [.bool false, .slice none 0 0, .bool false, .slice none 0 0]
 go_enter Tryz.func49, Tryz.ntmps49
 go_wp2_with fail
 generalize w.alloc (.cells #[.bool false, .slice none 0 0, .bool false, .slice none 0 0] 31) = W at *
 refine (whole_int z h1 h2).mono ?_
 rintro e W1 ⟨U1, rfl, hp, hk⟩
 obtain ⟨b3, A3, n3, c3, rfl⟩ := hp.open3
 replace S := (S.below hk).addI hp
 clear hk hp
 go_wp2_with fail
 refine (whole_int 1 (by omega) (by omega)).mono ?_
 rintro e W2 ⟨U2, rfl, hp, hk⟩
 obtain ⟨b4, A4, n4, c4, rfl⟩ := hp.open3
 replace S := (S.below hk).addI hp
 clear hk hp
 obtain ⟨r0_0, r0_1, r0_2, r0_3⟩ := S.cc4 0 rfl
 obtain ⟨f0_0, f0_1, f0_2, f0_3⟩ := S.ff4 0 rfl
 go_wp2
 replace S := S.put4 0 rfl rfl rfl (x' := .bool b3) (y' := .slice A3 n3 c3) (z' := .bool b4) (u' := .slice A4 n4 c4)
 refine bodyPost_ret (v := .agg #[.bool b3, .slice A3 n3 c3, .bool b4, .slice A4 n4 c4]) (by simp [results, Tryz.results49, go_sem, S.c 0 0 rfl rfl, S.c 0 1 rfl rfl, S.c 0 2 rfl rfl, S.c 0 3 rfl rfl]) rfl ?_
 exact ⟨_, rfl, RatRep.whole (S.ii 1 rfl) (S.ii 0 rfl), S.k⟩

theorem RatArg.rep {w : World} {V : Value} {n1 n2 : Bool} {xs ys : List Nat} (h : RatArg w V n1 xs n2 ys) (hv : rvalidB n1 xs n2 ys = true) : RatRep w V (rcnt n1 xs n2 ys) := by
 obtain ⟨e1, e2⟩ := rcnt_true hv
 unfold rvalidB at hv
 simp only [Bool.and_eq_true] at hv
 obtain ⟨x, v, y, u, rfl, h1, h2⟩ := h
 exact RatRep.mk (h1.rep hv.1) (h2.rep hv.2.1) e1.symm e2.symm
set_option maxRecDepth 100000 in
set_option maxHeartbeats 1000000 in
theorem gvalue_num {w : World} {V : Value} {q : Rat} (h : RatNum w V q) : Calls Tryz.prog 51 #[V] w (RGives q w) := by
 obtain ⟨n1, xs, n2, ys, h, rfl, l1, l2⟩ := h
 obtain ⟨A1, m1, c1, A2, m2, c2, rfl⟩ := h.open_
 have S := ((St.start w).alloc 31 [.bool n1, .slice A1 m1 c1, .bool n2, .slice A2 m2 c2]).alloc 31 [.bool false, .slice none 0 0, .bool false, .slice none 0 0]
 simp only [World.size_alloc] at S
 have HA := Lib.hid h
 clear h
 go_enter Tryz.func51, Tryz.ntmps51
 go_wp2_with fail
 generalize (w.alloc (.cells #[.bool n1, .slice A1 m1 c1, .bool n2, .slice A2 m2 c2] 31)).alloc (.cells #[.bool false, .slice none 0 0, .bool false, .slice none 0 0] 31) = W at *
 refine (gvalid_any (HA.out.below S.k) l1 l2).mono ?_
 rintro e W1 ⟨rfl, hk⟩
 replace S := S.below hk
 clear hk
 cases hv : rvalidB n1 xs n2 ys with
 | true =>
  replace S := S.addQ ((HA.out.below S.k).rep hv)
  clear hv HA
  obtain ⟨r1_0, r1_1, r1_2, r1_3⟩ := S.cc4 1 rfl
  obtain ⟨r0_0, r0_1, r0_2, r0_3⟩ := S.cc4 0 rfl
  obtain ⟨f0_0, f0_1, f0_2, f0_3⟩ := S.ff4 0 rfl
  go_wp2
  replace S := S.put4 0 rfl rfl rfl (x' := .bool n1) (y' := .slice A1 m1 c1) (z' := .bool n2) (u' := .slice A2 m2 c2)
  refine bodyPost_ret (v := .agg #[.bool n1, .slice A1 m1 c1, .bool n2, .slice A2 m2 c2]) (by simp [results, Tryz.results51, go_sem, S.c 0 0 rfl rfl, S.c 0 1 rfl rfl, S.c 0 2 rfl rfl, S.c 0 3 rfl rfl]) rfl ?_
  exact ⟨_, rfl, S.qi 0 rfl, S.k⟩
 | false =>
  have HZ := Lib.hid (rcnt_false hv)
  clear hv HA
  go_wp2_with fail
  refine (gwhole_num 0 (by omega) (by omega)).mono ?_
  rintro e W2 ⟨U, rfl, hp, hk⟩
  obtain ⟨b3, A3, n3, c3, b4, A4, n4, c4, rfl⟩ := hp.open_
  replace S := (S.below hk).addQ hp
  clear hk hp
  obtain ⟨r0_0, r0_1, r0_2, r0_3⟩ := S.cc4 0 rfl
  obtain ⟨f0_0, f0_1, f0_2, f0_3⟩ := S.ff4 0 rfl
  go_wp2
  replace S := S.put4 0 rfl rfl rfl (x' := .bool b3) (y' := .slice A3 n3 c3) (z' := .bool b4) (u' := .slice A4 n4 c4)
  refine bodyPost_ret (v := .agg #[.bool b3, .slice A3 n3 c3, .bool b4, .slice A4 n4 c4]) (by simp [results, Tryz.results51, go_sem, S.c 0 0 rfl rfl, S.c 0 1 rfl rfl, S.c 0 2 rfl rfl, S.c 0 3 rfl rfl]) rfl ?_
  exact ⟨_, rfl, by rw [HZ.out]; exact S.qi 0 rfl, S.k⟩
end Go.Proofs.YtgcigdahjabimaaGreatDoor
