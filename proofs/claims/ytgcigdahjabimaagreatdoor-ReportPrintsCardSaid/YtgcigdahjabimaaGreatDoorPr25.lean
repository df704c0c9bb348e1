/- The walks of fiducialref02.Mul, Add, Sign, Neg, Sub, Compare, Same. -/
import Derived.Test.YtgcigdahjabimaaGreatDoorPr24
namespace Go.Proofs.YtgcigdahjabimaaGreatDoor
open Go.RowKit Go.Shelf

set_option maxRecDepth 100000 in
set_option maxHeartbeats 1000000 in
theorem gadd_num {w : World} {V1 V2 : Value} {x y : Rat} (h1 : RatNum w V1 x) (h2 : RatNum w V2 y) : Calls Tryz.prog 16 #[V1, V2] w (RGives (x + y) w) := by
 obtain ⟨b1, A1, n1, c1, d1, B1, m1, e1, rfl⟩ := h1.open_
 obtain ⟨b2, A2, n2, c2, d2, B2, m2, e2, rfl⟩ := h2.open_
 have hx := h1.sz
 have hy := h2.sz
 have S := (((St.start w).alloc 31 [.bool b1, .slice A1 n1 c1, .bool d1, .slice B1 m1 e1]).alloc 31 [.bool b2, .slice A2 n2 c2, .bool d2, .slice B2 m2 e2]).alloc 31 [.bool false, .slice none 0 0, .bool false, .slice none 0 0]
 simp only [World.size_alloc] at S
 go_enter Tryz.func16, Tryz.ntmps16
 go_wp2_with fail
 generalize ((w.alloc (.cells #[.bool b1, .slice A1 n1 c1, .bool d1, .slice B1 m1 e1] 31)).alloc (.cells #[.bool b2, .slice A2 n2 c2, .bool d2, .slice B2 m2 e2] 31)).alloc (.cells #[.bool false, .slice none 0 0, .bool false, .slice none 0 0] 31) = W at *
 go_wp2_with fail
 refine (gvalue_num (h1.below S.k)).mono ?_
 rintro e W1 ⟨U, rfl, hp, hk⟩
 obtain ⟨b3, A3, n3, c3, d3, B3, m3, e3, rfl⟩ := hp.open_
 have lt1 := (S.below hk).k.size
 replace S := ((S.below hk).addQ hp).alloc 31 [.bool b3, .slice A3 n3 c3, .bool d3, .slice B3 m3 e3]
 clear hk hp
 go_upto_region 2 with fail
 generalize hB : W1.heap.size = P5 at *
 generalize hW : W1.alloc (.cells #[.bool b3, .slice A3 n3 c3, .bool d3, .slice B3 m3 e3] 31) = W2 at *
 clear hB hW lt1
 obtain ⟨r2_0, r2_1, r2_2, r2_3⟩ := S.cc4 2 rfl
 go_wp2_with fail
 refine (gvalue_num (h2.below S.k)).mono ?_
 rintro e W3 ⟨U, rfl, hp, hk⟩
 obtain ⟨b4, A4, n4, c4, d4, B4, m4, e4, rfl⟩ := hp.open_
 replace S := ((S.below hk).addQ hp).alloc 31 [.bool b4, .slice A4 n4 c4, .bool d4, .slice B4 m4 e4]
 clear hk hp r2_0 r2_1 r2_2 r2_3
 go_upto_region 3 with fail
 generalize hB : W3.heap.size = P6 at *
 generalize hW : W3.alloc (.cells #[.bool b4, .slice A4 n4 c4, .bool d4, .slice B4 m4 e4] 31) = W4 at *
 clear hB hW
 have lx1 := szR_num hx
 have lx2 := szR_den hx
 have ly1 := szR_num hy
 have ly2 := szR_den hy
 have l1 := lenI_mul x.num y.num
 have l2 := lenI_mul x.den y.den
 have l3 := lenI_mul x.num y.den
 have l4 := lenI_mul y.num x.den
 have l5 := lenI_add (x.num * y.den) (y.num * x.den)
 have HNE := Lib.hid (show ((x.den : Int) * y.den) ≠ 0 by have := den_mul_pos x y; omega)
 refine wp_region_steps (m := 17) rfl (by kernel_rfl) (fun iF vF wF => (List.getD [fun vF _ => vF = .pointer (some ⟨P5, 0, none⟩), fun vF _ => vF = .agg #[.bool b3, .slice A3 n3 c3], fun vF _ => vF = .pointer (some ⟨P6, 2, none⟩), fun vF _ => vF = .agg #[.bool d4, .slice B4 m4 e4], fun vF wF => IntRep wF vF (x.num * y.den), fun vF _ => vF = .pointer (some ⟨P6, 0, none⟩), fun vF _ => vF = .agg #[.bool b4, .slice A4 n4 c4], fun vF _ => vF = .pointer (some ⟨P5, 2, none⟩), fun vF _ => vF = .agg #[.bool d3, .slice B3 m3 e3], fun vF wF => IntRep wF vF (y.num * x.den), fun vF wF => IntRep wF vF (x.num * y.den + y.num * x.den), fun vF _ => vF = .pointer (some ⟨P5, 2, none⟩), fun vF _ => vF = .agg #[.bool d3, .slice B3 m3 e3], fun vF _ => vF = .pointer (some ⟨P6, 2, none⟩), fun vF _ => vF = .agg #[.bool d4, .slice B4 m4 e4], fun vF wF => IntRep wF vF ((x.den : Int) * y.den), fun vF wF => RatRep wF vF (x + y)] iF (fun _ _ => True)) vF wF) [] ?_ ?_ ?_
 ·intro i v w w' hi h hk
  rcases (show i = 0 ∨ i = 1 ∨ i = 2 ∨ i = 3 ∨ i = 4 ∨ i = 5 ∨ i = 6 ∨ i = 7 ∨ i = 8 ∨ i = 9 ∨ i = 10 ∨ i = 11 ∨ i = 12 ∨ i = 13 ∨ i = 14 ∨ i = 15 ∨ i = 16 by omega) with rfl | rfl | rfl | rfl | rfl | rfl | rfl | rfl | rfl | rfl | rfl | rfl | rfl | rfl | rfl | rfl | rfl
  all_goals simp only [gz, gs] at h ⊢
  all_goals first | exact h | exact IntRep.below h hk | exact RatRep.below h hk
 ·intro i hi vs w3 hk3 hd
  have S3 := S.drew.below hk3
  obtain ⟨a0, a1, a2, a3⟩ := S3.cc4 1 rfl
  obtain ⟨a4, a5, a6, a7⟩ := S3.cc4 0 rfl
  match i, hi with
  | 0, _ =>
   refine step_yes [] rfl (by kernel_rfl) fun K hK => ?_; simp only [frD] at hK ⊢; refine ⟨by rfl, ?_⟩; go_simp
   exact hK _ _ ⟨Below.refl _ _, rfl, by simp⟩
  | 1, _ =>
   have e0 := hd 0 (cm (by kernel_rfl)); simp only [gz] at e0
   refine step_yes [(0, some 11)] rfl (by kernel_rfl) fun K hK => ?_; simp only [frD, e0] at hK ⊢; refine ⟨by rfl, ?_⟩; go_simp
   exact hK _ _ ⟨Below.refl _ _, rfl, by simp⟩
  | 2, _ =>
   refine step_yes [] rfl (by kernel_rfl) fun K hK => ?_; simp only [frD] at hK ⊢; refine ⟨by rfl, ?_⟩; go_simp
   exact hK _ _ ⟨Below.refl _ _, rfl, by simp⟩
  | 3, _ =>
   have e2 := hd 2 (cm (by kernel_rfl)); simp only [gz, gs] at e2
   refine step_yes [(2, some 13)] rfl (by kernel_rfl) fun K hK => ?_; simp only [frD, e2] at hK ⊢; refine ⟨by rfl, ?_⟩; go_simp
   exact hK _ _ ⟨Below.refl _ _, rfl, by simp⟩
  | 4, _ =>
   have e1 := hd 1 (cm (by kernel_rfl)); simp only [gz, gs] at e1; have e3 := hd 3 (cm (by kernel_rfl)); simp only [gz, gs] at e3
   refine step_yes [(1, some 12), (3, some 14)] rfl (by kernel_rfl) fun K hK => ?_; simp only [frD, e1, e3] at hK ⊢; refine ⟨by rfl, ?_⟩; go_simp
   refine (rmul_num ((S3.qi 1 rfl).nn hx) ((S3.qi 0 rfl).dn hy)).mono ?_; rintro e w4 ⟨U, rfl, hr, hk4⟩; exact hK _ _ ⟨hk4, hr, by simp⟩
  | 5, _ =>
   refine step_yes [] rfl (by kernel_rfl) fun K hK => ?_; simp only [frD] at hK ⊢; refine ⟨by rfl, ?_⟩; go_simp
   exact hK _ _ ⟨Below.refl _ _, rfl, by simp⟩
  | 6, _ =>
   have e5 := hd 5 (cm (by kernel_rfl)); simp only [gz, gs] at e5
   refine step_yes [(5, some 16)] rfl (by kernel_rfl) fun K hK => ?_; simp only [frD, e5] at hK ⊢; refine ⟨by rfl, ?_⟩; go_simp
   exact hK _ _ ⟨Below.refl _ _, rfl, by simp⟩
  | 7, _ =>
   refine step_yes [] rfl (by kernel_rfl) fun K hK => ?_; simp only [frD] at hK ⊢; refine ⟨by rfl, ?_⟩; go_simp
   exact hK _ _ ⟨Below.refl _ _, rfl, by simp⟩
  | 8, _ =>
   have e7 := hd 7 (cm (by kernel_rfl)); simp only [gz, gs] at e7
   refine step_yes [(7, some 18)] rfl (by kernel_rfl) fun K hK => ?_; simp only [frD, e7] at hK ⊢; refine ⟨by rfl, ?_⟩; go_simp
   exact hK _ _ ⟨Below.refl _ _, rfl, by simp⟩
  | 9, _ =>
   have h4 := hd 4 (cm (by kernel_rfl)); simp only [gz, gs] at h4; have e6 := hd 6 (cm (by kernel_rfl)); simp only [gz, gs] at e6; have e8 := hd 8 (cm (by kernel_rfl)); simp only [gz, gs] at e8
   refine step_yes [(4, some 15), (6, some 17), (8, some 19)] rfl (by kernel_rfl) fun K hK => ?_; simp only [frD, e6, e8] at hK ⊢; refine ⟨by rfl, ?_⟩; go_simp
   refine (rmul_num ((S3.qi 0 rfl).nn hy) ((S3.qi 1 rfl).dn hx)).mono ?_; rintro e w4 ⟨U, rfl, hr, hk4⟩; exact hK _ _ ⟨hk4, hr, by simp⟩
  | 10, _ =>
   have h4 := hd 4 (cm (by kernel_rfl)); simp only [gz, gs] at h4; have h9 := hd 9 (cm (by kernel_rfl)); simp only [gz, gs] at h9
   refine step_yes [(4, some 15), (9, some 20)] rfl (by kernel_rfl) fun K hK => ?_; simp only [frD] at hK ⊢; refine ⟨by rfl, ?_⟩; go_simp
   refine (radd_num (h4.num (by omega)) (h9.num (by omega))).mono ?_; rintro e w4 ⟨U, rfl, hr, hk4⟩; exact hK _ _ ⟨hk4, hr, by simp⟩
  | 11, _ =>
   refine step_yes [] rfl (by kernel_rfl) fun K hK => ?_; simp only [frD] at hK ⊢; refine ⟨by rfl, ?_⟩; go_simp
   exact hK _ _ ⟨Below.refl _ _, rfl, by simp⟩
  | 12, _ =>
   have e11 := hd 11 (cm (by kernel_rfl)); simp only [gz, gs] at e11
   refine step_yes [(11, some 22)] rfl (by kernel_rfl) fun K hK => ?_; simp only [frD, e11] at hK ⊢; refine ⟨by rfl, ?_⟩; go_simp
   exact hK _ _ ⟨Below.refl _ _, rfl, by simp⟩
  | 13, _ =>
   refine step_yes [] rfl (by kernel_rfl) fun K hK => ?_; simp only [frD] at hK ⊢; refine ⟨by rfl, ?_⟩; go_simp
   exact hK _ _ ⟨Below.refl _ _, rfl, by simp⟩
  | 14, _ =>
   have e13 := hd 13 (cm (by kernel_rfl)); simp only [gz, gs] at e13
   refine step_yes [(13, some 24)] rfl (by kernel_rfl) fun K hK => ?_; simp only [frD, e13] at hK ⊢; refine ⟨by rfl, ?_⟩; go_simp
   exact hK _ _ ⟨Below.refl _ _, rfl, by simp⟩
  | 15, _ =>
   have h10 := hd 10 (cm (by kernel_rfl)); simp only [gz, gs] at h10; have e12 := hd 12 (cm (by kernel_rfl)); simp only [gz, gs] at e12; have e14 := hd 14 (cm (by kernel_rfl)); simp only [gz, gs] at e14
   refine step_yes [(10, some 21), (12, some 23), (14, some 25)] rfl (by kernel_rfl) fun K hK => ?_; simp only [frD, e12, e14] at hK ⊢; refine ⟨by rfl, ?_⟩; go_simp
   refine (rmul_num ((S3.qi 1 rfl).dn hx) ((S3.qi 0 rfl).dn hy)).mono ?_; rintro e w4 ⟨U, rfl, hr, hk4⟩; exact hK _ _ ⟨hk4, hr, by simp⟩
  | 16, _ =>
   have h10 := hd 10 (cm (by kernel_rfl)); simp only [gz, gs] at h10; have h15 := hd 15 (cm (by kernel_rfl)); simp only [gz, gs] at h15
   refine step_yes [(10, some 21), (15, some 26)] rfl (by kernel_rfl) fun K hK => ?_; simp only [frD] at hK ⊢; refine ⟨by rfl, ?_⟩; go_simp
   refine (rgives_eq (greduced_num (h10.num4 (by omega)) (h15.num4 (by omega)) HNE.out) (add_divInt x y).symm).mono ?_; rintro e w4 ⟨U, rfl, hr, hk4⟩; exact hK _ _ ⟨hk4, hr, by simp⟩
  | i + 17, hi => exact absurd hi (by omega)
 ·intro vs wpb hk3 hΦ _
  simp only [List.drop_succ_cons, List.drop_zero]
  rw [fr_frD, show (List.range 17).map _ = [(0, some 11), (1, some 12), (2, some 13), (3, some 14), (4, some 15), (5, some 16), (6, some 17), (7, some 18), (8, some 19), (9, some 20), (10, some 21), (11, some 22), (12, some 23), (13, some 24), (14, some 25), (15, some 26), (16, some 27)] by kernel_rfl]
  have pb0 := hΦ 0 (by omega); simp only [gz] at pb0
  have pb1 := hΦ 1 (by omega); simp only [gz, gs] at pb1
  have pb2 := hΦ 2 (by omega); simp only [gz, gs] at pb2
  have pb3 := hΦ 3 (by omega); simp only [gz, gs] at pb3
  have pb4 := hΦ 4 (by omega); simp only [gz, gs] at pb4
  have pb5 := hΦ 5 (by omega); simp only [gz, gs] at pb5
  have pb6 := hΦ 6 (by omega); simp only [gz, gs] at pb6
  have pb7 := hΦ 7 (by omega); simp only [gz, gs] at pb7
  have pb8 := hΦ 8 (by omega); simp only [gz, gs] at pb8
  have pb9 := hΦ 9 (by omega); simp only [gz, gs] at pb9
  have pb10 := hΦ 10 (by omega); simp only [gz, gs] at pb10
  have pb11 := hΦ 11 (by omega); simp only [gz, gs] at pb11
  have pb12 := hΦ 12 (by omega); simp only [gz, gs] at pb12
  have pb13 := hΦ 13 (by omega); simp only [gz, gs] at pb13
  have pb14 := hΦ 14 (by omega); simp only [gz, gs] at pb14
  have pb15 := hΦ 15 (by omega); simp only [gz, gs] at pb15
  have pb16 := hΦ 16 (by omega); simp only [gz, gs] at pb16
  clear hΦ
  simp only [frD, pb0, pb1, pb2, pb3, pb5, pb6, pb7, pb8, pb11, pb12, pb13, pb14]
  simp only [Act.put, List.setIfInBounds_toArray, List.set_cons_zero, List.set_cons_succ]
  clear pb0 pb1 pb2 pb3 pb5 pb6 pb7 pb8 pb11 pb12 pb13 pb14
  generalize vs 4 = U4 at pb4 ⊢
  generalize vs 9 = U9 at pb9 ⊢
  generalize vs 10 = U10 at pb10 ⊢
  generalize vs 15 = U15 at pb15 ⊢
  generalize vs 16 = U16 at pb16 ⊢
  replace S := S.drew.below hk3
  obtain ⟨b5, A5, n5, c5, d5, B5, m5, e5, rfl⟩ := pb16.open_
  replace S := S.addQ pb16
  clear pb4 pb9 pb10 pb15 pb16 hk3 l1 l2 l3 l4 l5 h1 h2
  obtain ⟨r2_0, r2_1, r2_2, r2_3⟩ := S.cc4 2 rfl
  obtain ⟨f2_0, f2_1, f2_2, f2_3⟩ := S.ff4 2 rfl
  go_wp2
  replace S := S.put4 2 rfl rfl rfl (x' := .bool b5) (y' := .slice A5 n5 c5) (z' := .bool d5) (u' := .slice B5 m5 e5)
  refine bodyPost_ret (v := .agg #[.bool b5, .slice A5 n5 c5, .bool d5, .slice B5 m5 e5]) (by simp [results, Tryz.results16, go_sem, S.c 2 0 rfl rfl, S.c 2 1 rfl rfl, S.c 2 2 rfl rfl, S.c 2 3 rfl rfl]) rfl ?_
  exact ⟨_, rfl, S.qi 0 rfl, S.k⟩
set_option maxRecDepth 100000 in
set_option maxHeartbeats 1000000 in
theorem gsign_s {w : World} {V1 : Value} {x : Rat} {s : Int} (h1 : RatNum w V1 x) (hs : x.num.sign = s) : Calls Tryz.prog 56 #[V1] w fun e w' => e = .returned (.int .i64 s) ∧ Keeps w w' := by
 obtain ⟨b1, A1, n1, c1, d1, B1, m1, e1, rfl⟩ := h1.open_
 have hx := h1.sz
 have S := (St.start w).alloc 31 [.bool b1, .slice A1 n1 c1, .bool d1, .slice B1 m1 e1]
 have HS := Lib.hid hs
 clear hs
 go_enter Tryz.func56, Tryz.ntmps56
 go_wp2_with fail
 generalize w.alloc (.cells #[.bool b1, .slice A1 n1 c1, .bool d1, .slice B1 m1 e1] 31) = W at *
 refine (gvalue_num (h1.below S.k)).mono ?_
 rintro e W1 ⟨U, rfl, hp, hk⟩
 obtain ⟨b3, A3, n3, c3, d3, B3, m3, e3, rfl⟩ := hp.open_
 replace S := (S.below hk).addQ hp
 clear hk hp
 have hf := run_field_num (.bool b3) (.slice A3 n3 c3) (.bool d3) (.slice B3 m3 e3)
 go_wp2_with fail
 refine (rsign_s ((S.qi 0 rfl).nn hx) HS.out).mono ?_
 rintro e W2 ⟨rfl, hk⟩
 replace S := S.below hk
 go_wp2
 go_ret
 exact ⟨rfl, S.k⟩

end Go.Proofs.YtgcigdahjabimaaGreatDoor
