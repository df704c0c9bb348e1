/- The walks of the reference's Abs, Divide, Floor, Ceil, Zero; of the laws' helper same. -/
import Derived.Test.YtmochehkkadjnaaGreatDoorMgLawF
namespace Go.Proofs.YtmochehkkadjnaaGreatDoor
open Go.RowKit Go.Shelf

set_option maxRecDepth 100000 in
set_option maxHeartbeats 1000000 in
theorem gabs_neg {w : World} {V1 : Value} {x : Rat} (h1 : RatNum w V1 x) (hx : x < 0) : Calls Tryz.prog 65 #[V1] w (RGives (absR x) w) := by
  obtain ⟨b3, A3, n3, c3, d3, B3, m3, e3, rfl⟩ := h1.open_
  have z0 := h1.sz
  have y0 := Nat.le_of_eq (szR_neg x)
  obtain ⟨s1, hs1⟩ : ∃ s, x.num.sign = s := ⟨_, rfl⟩
  have t1 : decide (s1 < 0) = true := by exact decide_eq_true (by rw [← hs1]; exact (rsgn_neg x).2 hx)
  have HS1 := Lib.hid hs1
  clear hs1
  have S := ((St.start w).addR h1)
  clear h1
  go_enter Tryz.func65, Tryz.ntmps65
  go_upto_region 1 with fail
  replace S := ((S.alloc 28 [.bool b3, .slice A3 n3 c3, .bool d3, .slice B3 m3 e3]).alloc 28 [.bool false, .slice none 0 0, .bool false, .slice none 0 0])
  simp only [World.size_alloc] at S
  obtain ⟨W1, eW, S⟩ := S.pack
  rw [eW]
  clear eW
  have r0_0 := S.c 1 0 rfl rfl
  have r0_1 := S.c 1 1 rfl rfl
  have r0_2 := S.c 1 2 rfl rfl
  have r0_3 := S.c 1 3 rfl rfl
  go_wp2_with fail
  refine ((gsign_s (S.ri 0 rfl) HS1.out)).mono ?_
  rintro e W2 ⟨rfl, hk⟩
  replace S := S.below hk
  clear hk
  clear r0_0 r0_1 r0_2 r0_3
  have r0_0 := S.c 1 0 rfl rfl
  have r0_1 := S.c 1 1 rfl rfl
  have r0_2 := S.c 1 2 rfl rfl
  have r0_3 := S.c 1 3 rfl rfl
  go_wp2_with fail
  refine ((gneg_num (S.ri 0 rfl))).mono ?_
  rintro e W3 ⟨U3, rfl, hp, hk⟩
  obtain ⟨b4, A4, n4, c4, d4, B4, m4, e4, rfl⟩ := hp.open_
  replace S := (S.below hk).addQ hp
  clear hk hp
  clear r0_0 r0_1 r0_2 r0_3
  have r1_0 := S.c 0 0 rfl rfl
  have f1_0 := S.f 0 0 rfl
  have r1_1 := S.c 0 1 rfl rfl
  have f1_1 := S.f 0 1 rfl
  have r1_2 := S.c 0 2 rfl rfl
  have f1_2 := S.f 0 2 rfl
  have r1_3 := S.c 0 3 rfl rfl
  have f1_3 := S.f 0 3 rfl
  go_wp2
  replace S := (S.put4 0 rfl rfl rfl (x' := .bool b4) (y' := .slice A4 n4 c4) (z' := .bool d4) (u' := .slice B4 m4 e4))
  refine bodyPost_ret (v := .agg #[.bool b4, .slice A4 n4 c4, .bool d4, .slice B4 m4 e4]) (by simp [results, Tryz.results65, go_sem, S.c 0 0 rfl rfl, S.c 0 1 rfl rfl, S.c 0 2 rfl rfl, S.c 0 3 rfl rfl]) rfl ?_
  exact ⟨_, rfl, by rw [show absR x = -x from if_pos hx]; exact S.qi 0 rfl, S.k⟩
set_option maxRecDepth 100000 in
set_option maxHeartbeats 1000000 in
theorem gabs_pos {w : World} {V1 : Value} {x : Rat} (h1 : RatNum w V1 x) (hx : ¬ x < 0) : Calls Tryz.prog 65 #[V1] w (RGives (absR x) w) := by
  obtain ⟨b3, A3, n3, c3, d3, B3, m3, e3, rfl⟩ := h1.open_
  have z0 := h1.sz
  obtain ⟨s1, hs1⟩ : ∃ s, x.num.sign = s := ⟨_, rfl⟩
  have t1 : decide (s1 < 0) = false := by exact decide_eq_false (by rw [← hs1]; exact fun h => hx ((rsgn_neg x).1 h))
  have HS1 := Lib.hid hs1
  clear hs1
  have S := ((St.start w).addR h1)
  clear h1
  go_enter Tryz.func65, Tryz.ntmps65
  go_upto_region 1 with fail
  replace S := ((S.alloc 28 [.bool b3, .slice A3 n3 c3, .bool d3, .slice B3 m3 e3]).alloc 28 [.bool false, .slice none 0 0, .bool false, .slice none 0 0])
  simp only [World.size_alloc] at S
  obtain ⟨W1, eW, S⟩ := S.pack
  rw [eW]
  clear eW
  have r0_0 := S.c 1 0 rfl rfl
  have r0_1 := S.c 1 1 rfl rfl
  have r0_2 := S.c 1 2 rfl rfl
  have r0_3 := S.c 1 3 rfl rfl
  go_wp2_with fail
  refine ((gsign_s (S.ri 0 rfl) HS1.out)).mono ?_
  rintro e W2 ⟨rfl, hk⟩
  replace S := S.below hk
  clear hk
  clear r0_0 r0_1 r0_2 r0_3
  have r0_0 := S.c 1 0 rfl rfl
  have r0_1 := S.c 1 1 rfl rfl
  have r0_2 := S.c 1 2 rfl rfl
  have r0_3 := S.c 1 3 rfl rfl
  go_wp2_with fail
  refine ((gvalue_num (S.ri 0 rfl))).mono ?_
  rintro e W3 ⟨U3, rfl, hp, hk⟩
  obtain ⟨b4, A4, n4, c4, d4, B4, m4, e4, rfl⟩ := hp.open_
  replace S := (S.below hk).addQ hp
  clear hk hp
  clear r0_0 r0_1 r0_2 r0_3
  have r1_0 := S.c 0 0 rfl rfl
  have f1_0 := S.f 0 0 rfl
  have r1_1 := S.c 0 1 rfl rfl
  have f1_1 := S.f 0 1 rfl
  have r1_2 := S.c 0 2 rfl rfl
  have f1_2 := S.f 0 2 rfl
  have r1_3 := S.c 0 3 rfl rfl
  have f1_3 := S.f 0 3 rfl
  go_wp2
  replace S := (S.put4 0 rfl rfl rfl (x' := .bool b4) (y' := .slice A4 n4 c4) (z' := .bool d4) (u' := .slice B4 m4 e4))
  refine bodyPost_ret (v := .agg #[.bool b4, .slice A4 n4 c4, .bool d4, .slice B4 m4 e4]) (by simp [results, Tryz.results65, go_sem, S.c 0 0 rfl rfl, S.c 0 1 rfl rfl, S.c 0 2 rfl rfl, S.c 0 3 rfl rfl]) rfl ?_
  exact ⟨_, rfl, by rw [show absR x = x from if_neg hx]; exact S.qi 0 rfl, S.k⟩
theorem gabs_num {w : World} {V1 : Value} {x : Rat} (h1 : RatNum w V1 x) : Calls Tryz.prog 65 #[V1] w (RGives (absR x) w) := by
  by_cases hx : x < 0
  · exact gabs_neg h1 hx
  · exact gabs_pos h1 hx
set_option maxRecDepth 100000 in
set_option maxHeartbeats 1000000 in
theorem gdivide_ok {w : World} {V1 V2 : Value} {x y : Rat} (h1 : RatNum w V1 x) (h2 : RatNum w V2 y) (hy : y ≠ 0) : Calls Tryz.prog 58 #[V1, V2] w (RCode 0 (x / y) w) := by
  obtain ⟨b3, A3, n3, c3, d3, B3, m3, e3, rfl⟩ := h1.open_
  have z0 := h1.sz
  obtain ⟨b4, A4, n4, c4, d4, B4, m4, e4, rfl⟩ := h2.open_
  have z1 := h2.sz
  have u1 := szR_num z0
  have u2 := szR_den z0
  have u3 := szR_num z1
  have u4 := szR_den z1
  have u5 : (x.den : Int) * y.num ≠ 0 := Int.mul_ne_zero (by have := den_posI x; omega) (fun h => hy (Rat.num_eq_zero.1 h))
  have y0 := lenI_mul ((x).num) (((y).den : Int))
  have y1 := lenI_mul (((x).den : Int)) ((y).num)
  have S := (((St.start w).addR h1).addR h2)
  clear h1 h2
  go_enter Tryz.func58, Tryz.ntmps58
  go_upto_region 1 with fail
  replace S := (((S.alloc 28 [.bool b3, .slice A3 n3 c3, .bool d3, .slice B3 m3 e3]).alloc 28 [.bool b4, .slice A4 n4 c4, .bool d4, .slice B4 m4 e4]).alloc 28 [.bool false, .slice none 0 0, .bool false, .slice none 0 0])
  simp only [World.size_alloc] at S
  obtain ⟨W1, eW, S⟩ := S.pack
  rw [eW]
  clear eW
  have r0_0 := S.c 2 0 rfl rfl
  have r0_1 := S.c 2 1 rfl rfl
  have r0_2 := S.c 2 2 rfl rfl
  have r0_3 := S.c 2 3 rfl rfl
  go_wp2_with fail
  refine ((gvalue_num (S.ri 1 rfl))).mono ?_
  rintro e W2 ⟨U2, rfl, hp, hk⟩
  obtain ⟨b5, A5, n5, c5, d5, B5, m5, e5, rfl⟩ := hp.open_
  replace S := (S.below hk).addQ hp
  clear hk hp
  clear r0_0 r0_1 r0_2 r0_3
  go_upto_region 2 with fail
  replace S := (S.alloc 28 [.bool b5, .slice A5 n5 c5, .bool d5, .slice B5 m5 e5])
  obtain ⟨W3, eW, S⟩ := S.pack
  rw [eW]
  clear eW
  generalize W2.heap.size = P1 at *
  have r1_0 := S.c 2 0 rfl rfl
  have r1_1 := S.c 2 1 rfl rfl
  have r1_2 := S.c 2 2 rfl rfl
  have r1_3 := S.c 2 3 rfl rfl
  go_wp2_with fail
  refine ((gvalue_num (S.ri 1 rfl))).mono ?_
  rintro e W4 ⟨U4, rfl, hp, hk⟩
  obtain ⟨b6, A6, n6, c6, d6, B6, m6, e6, rfl⟩ := hp.open_
  replace S := (S.below hk).addQ hp
  clear hk hp
  clear r1_0 r1_1 r1_2 r1_3
  go_upto_region 3 with fail
  replace S := (S.alloc 28 [.bool b6, .slice A6 n6 c6, .bool d6, .slice B6 m6 e6])
  obtain ⟨W5, eW, S⟩ := S.pack
  rw [eW]
  clear eW
  generalize W4.heap.size = P2 at *
  refine wp_region_steps (m := 13) rfl (by kernel_rfl) (fun iΦ vΦ wΦ => (List.getD [fun vΦ _ => vΦ = .pointer (some ⟨P1, 0, none⟩), fun vΦ _ => vΦ = .agg #[.bool b5, .slice A5 n5 c5], fun vΦ _ => vΦ = .pointer (some ⟨P2, 2, none⟩), fun vΦ _ => vΦ = .agg #[.bool d6, .slice B6 m6 e6], fun vΦ wΦ => IntRep wΦ vΦ (((x).num) * (((y).den : Int))), fun vΦ _ => vΦ = .pointer (some ⟨P1, 2, none⟩), fun vΦ _ => vΦ = .agg #[.bool d5, .slice B5 m5 e5], fun vΦ _ => vΦ = .pointer (some ⟨P2, 0, none⟩), fun vΦ _ => vΦ = .agg #[.bool b6, .slice A6 n6 c6], fun vΦ wΦ => IntRep wΦ vΦ ((((x).den : Int)) * ((y).num)), fun vΦ wΦ => TupQ (0) (x / y) vΦ wΦ, fun vΦ wΦ => FstQ (0) (x / y) vΦ wΦ, fun vΦ _ => vΦ = .int .i64 (0)] iΦ (fun _ _ => True)) vΦ wΦ) [] ?_ ?_ ?_
  · intro i v w w' hi h hk
    rcases (show i = 0 ∨ i = 1 ∨ i = 2 ∨ i = 3 ∨ i = 4 ∨ i = 5 ∨ i = 6 ∨ i = 7 ∨ i = 8 ∨ i = 9 ∨ i = 10 ∨ i = 11 ∨ i = 12 by omega) with rfl | rfl | rfl | rfl | rfl | rfl | rfl | rfl | rfl | rfl | rfl | rfl | rfl
    all_goals simp only [gz, gs] at h ⊢
    all_goals first | exact h | exact IntRep.below h hk | exact TupQ.below h hk | exact FstQ.below h hk
  · intro i hi vs w3 hk3 hd
    have S3 := S.drew.below hk3
    have a0 := S3.c 1 0 rfl rfl
    have a1 := S3.c 1 1 rfl rfl
    have a2 := S3.c 1 2 rfl rfl
    have a3 := S3.c 1 3 rfl rfl
    have a4 := S3.c 0 0 rfl rfl
    have a5 := S3.c 0 1 rfl rfl
    have a6 := S3.c 0 2 rfl rfl
    have a7 := S3.c 0 3 rfl rfl
    match i, hi with
    | 0, _ =>
      refine step_yes [] rfl (by kernel_rfl) fun K hK => ?_; simp only [frD] at hK ⊢; refine ⟨by rfl, ?_⟩; go_simp
      exact hK _ _ ⟨Below.refl _ _, rfl, by simp⟩
    | 1, _ =>
      have e0 := hd 0 (cm (by kernel_rfl)); simp only [gz] at e0
      refine step_yes [(0, some 12)] rfl (by kernel_rfl) fun K hK => ?_; simp only [frD, e0] at hK ⊢; refine ⟨by rfl, ?_⟩; go_simp
      exact hK _ _ ⟨Below.refl _ _, rfl, by simp⟩
    | 2, _ =>
      refine step_yes [] rfl (by kernel_rfl) fun K hK => ?_; simp only [frD] at hK ⊢; refine ⟨by rfl, ?_⟩; go_simp
      exact hK _ _ ⟨Below.refl _ _, rfl, by simp⟩
    | 3, _ =>
      have e2 := hd 2 (cm (by kernel_rfl)); simp only [gz, gs] at e2
      refine step_yes [(2, some 14)] rfl (by kernel_rfl) fun K hK => ?_; simp only [frD, e2] at hK ⊢; refine ⟨by rfl, ?_⟩; go_simp
      exact hK _ _ ⟨Below.refl _ _, rfl, by simp⟩
    | 4, _ =>
      have e1 := hd 1 (cm (by kernel_rfl)); simp only [gz, gs] at e1; have e3 := hd 3 (cm (by kernel_rfl)); simp only [gz, gs] at e3
      refine step_yes [(1, some 13), (3, some 15)] rfl (by kernel_rfl) fun K hK => ?_; simp only [frD, e1, e3] at hK ⊢; refine ⟨by rfl, ?_⟩; go_simp
      refine ((rmul_num ((S3.qi 1 rfl).nn (by omega)) ((S3.qi 0 rfl).dn (by omega)))).mono ?_; rintro e w4 ⟨U, rfl, hr, hk4⟩; exact hK _ _ ⟨hk4, hr, by simp⟩
    | 5, _ =>
      refine step_yes [] rfl (by kernel_rfl) fun K hK => ?_; simp only [frD] at hK ⊢; refine ⟨by rfl, ?_⟩; go_simp
      exact hK _ _ ⟨Below.refl _ _, rfl, by simp⟩
    | 6, _ =>
      have e5 := hd 5 (cm (by kernel_rfl)); simp only [gz, gs] at e5
      refine step_yes [(5, some 17)] rfl (by kernel_rfl) fun K hK => ?_; simp only [frD, e5] at hK ⊢; refine ⟨by rfl, ?_⟩; go_simp
      exact hK _ _ ⟨Below.refl _ _, rfl, by simp⟩
    | 7, _ =>
      refine step_yes [] rfl (by kernel_rfl) fun K hK => ?_; simp only [frD] at hK ⊢; refine ⟨by rfl, ?_⟩; go_simp
      exact hK _ _ ⟨Below.refl _ _, rfl, by simp⟩
    | 8, _ =>
      have e7 := hd 7 (cm (by kernel_rfl)); simp only [gz, gs] at e7
      refine step_yes [(7, some 19)] rfl (by kernel_rfl) fun K hK => ?_; simp only [frD, e7] at hK ⊢; refine ⟨by rfl, ?_⟩; go_simp
      exact hK _ _ ⟨Below.refl _ _, rfl, by simp⟩
    | 9, _ =>
      have h4 := hd 4 (cm (by kernel_rfl)); simp only [gz, gs] at h4; have e6 := hd 6 (cm (by kernel_rfl)); simp only [gz, gs] at e6; have e8 := hd 8 (cm (by kernel_rfl)); simp only [gz, gs] at e8
      refine step_yes [(4, some 16), (6, some 18), (8, some 20)] rfl (by kernel_rfl) fun K hK => ?_; simp only [frD, e6, e8] at hK ⊢; refine ⟨by rfl, ?_⟩; go_simp
      refine ((rmul_num ((S3.qi 1 rfl).dn (by omega)) ((S3.qi 0 rfl).nn (by omega)))).mono ?_; rintro e w4 ⟨U, rfl, hr, hk4⟩; exact hK _ _ ⟨hk4, hr, by simp⟩
    | 10, _ =>
      have h4 := hd 4 (cm (by kernel_rfl)); simp only [gz, gs] at h4; have h9 := hd 9 (cm (by kernel_rfl)); simp only [gz, gs] at h9
      refine step_yes [(4, some 16), (9, some 21)] rfl (by kernel_rfl) fun K hK => ?_; simp only [frD] at hK ⊢; refine ⟨by rfl, ?_⟩; go_simp
      refine ((rcode_eq (gnew_num (h4.num4 (by omega)) (h9.num4 (by omega))) (if_neg u5) (div_divInt x y).symm)).mono ?_; rintro e w4 ⟨U, rfl, hr, hk4⟩; exact hK _ _ ⟨hk4, ⟨U, rfl, hr⟩, by simp⟩
    | 11, _ =>
      have h10 := hd 10 (cm (by kernel_rfl)); simp only [gz, gs] at h10; obtain ⟨Q9, q9, hQ9⟩ := h10
      refine step_yes [(10, some 22)] rfl (by kernel_rfl) fun K hK => ?_; simp only [frD, q9] at hK ⊢; refine ⟨by rfl, ?_⟩; go_simp
      exact hK _ _ ⟨Below.refl _ _, hQ9, by simp⟩
    | 12, _ =>
      have h10 := hd 10 (cm (by kernel_rfl)); simp only [gz, gs] at h10; obtain ⟨Q9, q9, hQ9⟩ := h10
      refine step_yes [(10, some 22)] rfl (by kernel_rfl) fun K hK => ?_; simp only [frD, q9] at hK ⊢; refine ⟨by rfl, ?_⟩; go_simp
      exact hK _ _ ⟨Below.refl _ _, rfl, by simp⟩
    | i + 13, hi => exact absurd hi (by omega)
  · intro vs W6 hk3 hΦ _
    simp only [List.drop_succ_cons, List.drop_zero]
    rw [fr_frD, show (List.range 13).map _ = [(0, some 12), (1, some 13), (2, some 14), (3, some 15), (4, some 16), (5, some 17), (6, some 18), (7, some 19), (8, some 20), (9, some 21), (10, some 22), (11, some 23), (12, some 24)] by kernel_rfl]
    have pa0 := hΦ 0 (by omega); simp only [gz] at pa0
    have pa1 := hΦ 1 (by omega); simp only [gz, gs] at pa1
    have pa2 := hΦ 2 (by omega); simp only [gz, gs] at pa2
    have pa3 := hΦ 3 (by omega); simp only [gz, gs] at pa3
    have pa4 := hΦ 4 (by omega); simp only [gz, gs] at pa4
    have pa5 := hΦ 5 (by omega); simp only [gz, gs] at pa5
    have pa6 := hΦ 6 (by omega); simp only [gz, gs] at pa6
    have pa7 := hΦ 7 (by omega); simp only [gz, gs] at pa7
    have pa8 := hΦ 8 (by omega); simp only [gz, gs] at pa8
    have pa9 := hΦ 9 (by omega); simp only [gz, gs] at pa9
    have pa10 := hΦ 10 (by omega); simp only [gz, gs] at pa10
    have pa11 := hΦ 11 (by omega); simp only [gz, gs] at pa11
    have pa12 := hΦ 12 (by omega); simp only [gz, gs] at pa12
    clear hΦ
    simp only [frD, pa0, pa1, pa2, pa3, pa5, pa6, pa7, pa8, pa12]
    simp only [Act.put, List.setIfInBounds_toArray, List.set_cons_zero, List.set_cons_succ]
    clear pa0 pa1 pa2 pa3 pa5 pa6 pa7 pa8 pa12
    generalize vs 4 = Upa4 at pa4 ⊢
    generalize vs 9 = Upa9 at pa9 ⊢
    generalize vs 10 = Upa10 at pa10 ⊢
    generalize vs 11 = Upa11 at pa11 ⊢
    replace S := S.drew.below hk3
    clear pa4
    clear pa9
    clear pa10
    have hp := FstQ.rep pa11
    obtain ⟨b7, A7, n7, c7, d7, B7, m7, e7, rfl⟩ := hp.open_
    replace S := S.addQ hp
    clear hp pa11
    clear hk3
    have r2_0 := S.c 2 0 rfl rfl
    have f2_0 := S.f 2 0 rfl
    have r2_1 := S.c 2 1 rfl rfl
    have f2_1 := S.f 2 1 rfl
    have r2_2 := S.c 2 2 rfl rfl
    have f2_2 := S.f 2 2 rfl
    have r2_3 := S.c 2 3 rfl rfl
    have f2_3 := S.f 2 3 rfl
    go_wp2
    replace S := (S.put4 2 rfl rfl rfl (x' := .bool b7) (y' := .slice A7 n7 c7) (z' := .bool d7) (u' := .slice B7 m7 e7))
    refine bodyPost_ret (v := .tuple #[.agg #[.bool b7, .slice A7 n7 c7, .bool d7, .slice B7 m7 e7], .int .i64 0]) (by simp [results, Tryz.results58, go_sem, S.c 2 0 rfl rfl, S.c 2 1 rfl rfl, S.c 2 2 rfl rfl, S.c 2 3 rfl rfl]) rfl ?_
    exact ⟨_, rfl, by rw [if_pos rfl]; exact S.qi 0 rfl, S.k⟩
set_option maxRecDepth 100000 in
set_option maxHeartbeats 1000000 in
theorem gdivide_err {w : World} {V1 V2 : Value} {x y : Rat} (h1 : RatNum w V1 x) (h2 : RatNum w V2 y) (hy : y = 0) : Calls Tryz.prog 58 #[V1, V2] w (RCode 14 (x / y) w) := by
  obtain ⟨b3, A3, n3, c3, d3, B3, m3, e3, rfl⟩ := h1.open_
  have z0 := h1.sz
  obtain ⟨b4, A4, n4, c4, d4, B4, m4, e4, rfl⟩ := h2.open_
  have z1 := h2.sz
  have u1 := szR_num z0
  have u2 := szR_den z0
  have u3 := szR_num z1
  have u4 := szR_den z1
  have u5 : newC ((x.den : Int) * y.num) = 14 := if_pos (by rw [hy]; simp)
  have U5 := Lib.hid u5
  clear u5 hy
  have y0 := lenI_mul ((x).num) (((y).den : Int))
  have y1 := lenI_mul (((x).den : Int)) ((y).num)
  have S := (((St.start w).addR h1).addR h2)
  clear h1 h2
  go_enter Tryz.func58, Tryz.ntmps58
  go_upto_region 1 with fail
  replace S := (((S.alloc 28 [.bool b3, .slice A3 n3 c3, .bool d3, .slice B3 m3 e3]).alloc 28 [.bool b4, .slice A4 n4 c4, .bool d4, .slice B4 m4 e4]).alloc 28 [.bool false, .slice none 0 0, .bool false, .slice none 0 0])
  simp only [World.size_alloc] at S
  obtain ⟨W1, eW, S⟩ := S.pack
  rw [eW]
  clear eW
  have r0_0 := S.c 2 0 rfl rfl
  have r0_1 := S.c 2 1 rfl rfl
  have r0_2 := S.c 2 2 rfl rfl
  have r0_3 := S.c 2 3 rfl rfl
  go_wp2_with fail
  refine ((gvalue_num (S.ri 1 rfl))).mono ?_
  rintro e W2 ⟨U2, rfl, hp, hk⟩
  obtain ⟨b5, A5, n5, c5, d5, B5, m5, e5, rfl⟩ := hp.open_
  replace S := (S.below hk).addQ hp
  clear hk hp
  clear r0_0 r0_1 r0_2 r0_3
  go_upto_region 2 with fail
  replace S := (S.alloc 28 [.bool b5, .slice A5 n5 c5, .bool d5, .slice B5 m5 e5])
  obtain ⟨W3, eW, S⟩ := S.pack
  rw [eW]
  clear eW
  generalize W2.heap.size = P1 at *
  have r1_0 := S.c 2 0 rfl rfl
  have r1_1 := S.c 2 1 rfl rfl
  have r1_2 := S.c 2 2 rfl rfl
  have r1_3 := S.c 2 3 rfl rfl
  go_wp2_with fail
  refine ((gvalue_num (S.ri 1 rfl))).mono ?_
  rintro e W4 ⟨U4, rfl, hp, hk⟩
  obtain ⟨b6, A6, n6, c6, d6, B6, m6, e6, rfl⟩ := hp.open_
  replace S := (S.below hk).addQ hp
  clear hk hp
  clear r1_0 r1_1 r1_2 r1_3
  go_upto_region 3 with fail
  replace S := (S.alloc 28 [.bool b6, .slice A6 n6 c6, .bool d6, .slice B6 m6 e6])
  obtain ⟨W5, eW, S⟩ := S.pack
  rw [eW]
  clear eW
  generalize W4.heap.size = P2 at *
  refine wp_region_steps (m := 13) rfl (by kernel_rfl) (fun iΦ vΦ wΦ => (List.getD [fun vΦ _ => vΦ = .pointer (some ⟨P1, 0, none⟩), fun vΦ _ => vΦ = .agg #[.bool b5, .slice A5 n5 c5], fun vΦ _ => vΦ = .pointer (some ⟨P2, 2, none⟩), fun vΦ _ => vΦ = .agg #[.bool d6, .slice B6 m6 e6], fun vΦ wΦ => IntRep wΦ vΦ (((x).num) * (((y).den : Int))), fun vΦ _ => vΦ = .pointer (some ⟨P1, 2, none⟩), fun vΦ _ => vΦ = .agg #[.bool d5, .slice B5 m5 e5], fun vΦ _ => vΦ = .pointer (some ⟨P2, 0, none⟩), fun vΦ _ => vΦ = .agg #[.bool b6, .slice A6 n6 c6], fun vΦ wΦ => IntRep wΦ vΦ ((((x).den : Int)) * ((y).num)), fun vΦ wΦ => TupQ (14) (x / y) vΦ wΦ, fun vΦ wΦ => FstQ (14) (x / y) vΦ wΦ, fun vΦ _ => vΦ = .int .i64 (14)] iΦ (fun _ _ => True)) vΦ wΦ) [] ?_ ?_ ?_
  · intro i v w w' hi h hk
    rcases (show i = 0 ∨ i = 1 ∨ i = 2 ∨ i = 3 ∨ i = 4 ∨ i = 5 ∨ i = 6 ∨ i = 7 ∨ i = 8 ∨ i = 9 ∨ i = 10 ∨ i = 11 ∨ i = 12 by omega) with rfl | rfl | rfl | rfl | rfl | rfl | rfl | rfl | rfl | rfl | rfl | rfl | rfl
    all_goals simp only [gz, gs] at h ⊢
    all_goals first | exact h | exact IntRep.below h hk | exact TupQ.below h hk | exact FstQ.below h hk
  · intro i hi vs w3 hk3 hd
    have S3 := S.drew.below hk3
    have a0 := S3.c 1 0 rfl rfl
    have a1 := S3.c 1 1 rfl rfl
    have a2 := S3.c 1 2 rfl rfl
    have a3 := S3.c 1 3 rfl rfl
    have a4 := S3.c 0 0 rfl rfl
    have a5 := S3.c 0 1 rfl rfl
    have a6 := S3.c 0 2 rfl rfl
    have a7 := S3.c 0 3 rfl rfl
    match i, hi with
    | 0, _ =>
      refine step_yes [] rfl (by kernel_rfl) fun K hK => ?_; simp only [frD] at hK ⊢; refine ⟨by rfl, ?_⟩; go_simp
      exact hK _ _ ⟨Below.refl _ _, rfl, by simp⟩
    | 1, _ =>
      have e0 := hd 0 (cm (by kernel_rfl)); simp only [gz] at e0
      refine step_yes [(0, some 12)] rfl (by kernel_rfl) fun K hK => ?_; simp only [frD, e0] at hK ⊢; refine ⟨by rfl, ?_⟩; go_simp
      exact hK _ _ ⟨Below.refl _ _, rfl, by simp⟩
    | 2, _ =>
      refine step_yes [] rfl (by kernel_rfl) fun K hK => ?_; simp only [frD] at hK ⊢; refine ⟨by rfl, ?_⟩; go_simp
      exact hK _ _ ⟨Below.refl _ _, rfl, by simp⟩
    | 3, _ =>
      have e2 := hd 2 (cm (by kernel_rfl)); simp only [gz, gs] at e2
      refine step_yes [(2, some 14)] rfl (by kernel_rfl) fun K hK => ?_; simp only [frD, e2] at hK ⊢; refine ⟨by rfl, ?_⟩; go_simp
      exact hK _ _ ⟨Below.refl _ _, rfl, by simp⟩
    | 4, _ =>
      have e1 := hd 1 (cm (by kernel_rfl)); simp only [gz, gs] at e1; have e3 := hd 3 (cm (by kernel_rfl)); simp only [gz, gs] at e3
      refine step_yes [(1, some 13), (3, some 15)] rfl (by kernel_rfl) fun K hK => ?_; simp only [frD, e1, e3] at hK ⊢; refine ⟨by rfl, ?_⟩; go_simp
      refine ((rmul_num ((S3.qi 1 rfl).nn (by omega)) ((S3.qi 0 rfl).dn (by omega)))).mono ?_; rintro e w4 ⟨U, rfl, hr, hk4⟩; exact hK _ _ ⟨hk4, hr, by simp⟩
    | 5, _ =>
      refine step_yes [] rfl (by kernel_rfl) fun K hK => ?_; simp only [frD] at hK ⊢; refine ⟨by rfl, ?_⟩; go_simp
      exact hK _ _ ⟨Below.refl _ _, rfl, by simp⟩
    | 6, _ =>
      have e5 := hd 5 (cm (by kernel_rfl)); simp only [gz, gs] at e5
      refine step_yes [(5, some 17)] rfl (by kernel_rfl) fun K hK => ?_; simp only [frD, e5] at hK ⊢; refine ⟨by rfl, ?_⟩; go_simp
      exact hK _ _ ⟨Below.refl _ _, rfl, by simp⟩
    | 7, _ =>
      refine step_yes [] rfl (by kernel_rfl) fun K hK => ?_; simp only [frD] at hK ⊢; refine ⟨by rfl, ?_⟩; go_simp
      exact hK _ _ ⟨Below.refl _ _, rfl, by simp⟩
    | 8, _ =>
      have e7 := hd 7 (cm (by kernel_rfl)); simp only [gz, gs] at e7
      refine step_yes [(7, some 19)] rfl (by kernel_rfl) fun K hK => ?_; simp only [frD, e7] at hK ⊢; refine ⟨by rfl, ?_⟩; go_simp
      exact hK _ _ ⟨Below.refl _ _, rfl, by simp⟩
    | 9, _ =>
      have h4 := hd 4 (cm (by kernel_rfl)); simp only [gz, gs] at h4; have e6 := hd 6 (cm (by kernel_rfl)); simp only [gz, gs] at e6; have e8 := hd 8 (cm (by kernel_rfl)); simp only [gz, gs] at e8
      refine step_yes [(4, some 16), (6, some 18), (8, some 20)] rfl (by kernel_rfl) fun K hK => ?_; simp only [frD, e6, e8] at hK ⊢; refine ⟨by rfl, ?_⟩; go_simp
      refine ((rmul_num ((S3.qi 1 rfl).dn (by omega)) ((S3.qi 0 rfl).nn (by omega)))).mono ?_; rintro e w4 ⟨U, rfl, hr, hk4⟩; exact hK _ _ ⟨hk4, hr, by simp⟩
    | 10, _ =>
      have h4 := hd 4 (cm (by kernel_rfl)); simp only [gz, gs] at h4; have h9 := hd 9 (cm (by kernel_rfl)); simp only [gz, gs] at h9
      refine step_yes [(4, some 16), (9, some 21)] rfl (by kernel_rfl) fun K hK => ?_; simp only [frD] at hK ⊢; refine ⟨by rfl, ?_⟩; go_simp
      refine ((rcode_eq (gnew_num (h4.num4 (by omega)) (h9.num4 (by omega))) U5.out (div_divInt x y).symm)).mono ?_; rintro e w4 ⟨U, rfl, hr, hk4⟩; exact hK _ _ ⟨hk4, ⟨U, rfl, hr⟩, by simp⟩
    | 11, _ =>
      have h10 := hd 10 (cm (by kernel_rfl)); simp only [gz, gs] at h10; obtain ⟨Q9, q9, hQ9⟩ := h10
      refine step_yes [(10, some 22)] rfl (by kernel_rfl) fun K hK => ?_; simp only [frD, q9] at hK ⊢; refine ⟨by rfl, ?_⟩; go_simp
      exact hK _ _ ⟨Below.refl _ _, hQ9, by simp⟩
    | 12, _ =>
      have h10 := hd 10 (cm (by kernel_rfl)); simp only [gz, gs] at h10; obtain ⟨Q9, q9, hQ9⟩ := h10
      refine step_yes [(10, some 22)] rfl (by kernel_rfl) fun K hK => ?_; simp only [frD, q9] at hK ⊢; refine ⟨by rfl, ?_⟩; go_simp
      exact hK _ _ ⟨Below.refl _ _, rfl, by simp⟩
    | i + 13, hi => exact absurd hi (by omega)
  · intro vs W6 hk3 hΦ _
    simp only [List.drop_succ_cons, List.drop_zero]
    rw [fr_frD, show (List.range 13).map _ = [(0, some 12), (1, some 13), (2, some 14), (3, some 15), (4, some 16), (5, some 17), (6, some 18), (7, some 19), (8, some 20), (9, some 21), (10, some 22), (11, some 23), (12, some 24)] by kernel_rfl]
    have pa0 := hΦ 0 (by omega); simp only [gz] at pa0
    have pa1 := hΦ 1 (by omega); simp only [gz, gs] at pa1
    have pa2 := hΦ 2 (by omega); simp only [gz, gs] at pa2
    have pa3 := hΦ 3 (by omega); simp only [gz, gs] at pa3
    have pa4 := hΦ 4 (by omega); simp only [gz, gs] at pa4
    have pa5 := hΦ 5 (by omega); simp only [gz, gs] at pa5
    have pa6 := hΦ 6 (by omega); simp only [gz, gs] at pa6
    have pa7 := hΦ 7 (by omega); simp only [gz, gs] at pa7
    have pa8 := hΦ 8 (by omega); simp only [gz, gs] at pa8
    have pa9 := hΦ 9 (by omega); simp only [gz, gs] at pa9
    have pa10 := hΦ 10 (by omega); simp only [gz, gs] at pa10
    have pa11 := hΦ 11 (by omega); simp only [gz, gs] at pa11
    have pa12 := hΦ 12 (by omega); simp only [gz, gs] at pa12
    clear hΦ
    simp only [frD, pa0, pa1, pa2, pa3, pa5, pa6, pa7, pa8, pa12]
    simp only [Act.put, List.setIfInBounds_toArray, List.set_cons_zero, List.set_cons_succ]
    clear pa0 pa1 pa2 pa3 pa5 pa6 pa7 pa8 pa12
    generalize vs 4 = Upa4 at pa4 ⊢
    generalize vs 9 = Upa9 at pa9 ⊢
    generalize vs 10 = Upa10 at pa10 ⊢
    generalize vs 11 = Upa11 at pa11 ⊢
    replace S := S.drew.below hk3
    clear pa4
    clear pa9
    clear pa10
    have hp := FstQ.zero pa11 (by decide)
    unfold zeroRat at hp
    subst hp
    clear pa11
    clear hk3
    have r2_0 := S.c 2 0 rfl rfl
    have f2_0 := S.f 2 0 rfl
    have r2_1 := S.c 2 1 rfl rfl
    have f2_1 := S.f 2 1 rfl
    have r2_2 := S.c 2 2 rfl rfl
    have f2_2 := S.f 2 2 rfl
    have r2_3 := S.c 2 3 rfl rfl
    have f2_3 := S.f 2 3 rfl
    go_wp2
    replace S := (S.put4 2 rfl rfl rfl (x' := .bool false) (y' := .slice none 0 0) (z' := .bool false) (u' := .slice none 0 0))
    refine bodyPost_ret (v := .tuple #[.agg #[.bool false, .slice none 0 0, .bool false, .slice none 0 0], .int .i64 14]) (by simp [results, Tryz.results58, go_sem, S.c 2 0 rfl rfl, S.c 2 1 rfl rfl, S.c 2 2 rfl rfl, S.c 2 3 rfl rfl]) rfl ?_
    exact ⟨_, rfl, by rw [if_neg (by decide)]; rfl, S.k⟩
theorem gdivide_num {w : World} {V1 V2 : Value} {x y : Rat} (h1 : RatNum w V1 x) (h2 : RatNum w V2 y) : Calls Tryz.prog 58 #[V1, V2] w (RCode (rdivC y) (x / y) w) := by
  unfold rdivC
  by_cases hy : y = 0
  · rw [if_pos hy]; exact gdivide_err h1 h2 hy
  · rw [if_neg hy]; exact gdivide_ok h1 h2 hy
set_option maxRecDepth 100000 in
set_option maxHeartbeats 1000000 in
theorem gfloor_num {w : World} {V1 : Value} {x : Rat} (h1 : RatNum w V1 x) : Calls Tryz.prog 50 #[V1] w (Gives x.floor w) := by
  obtain ⟨b3, A3, n3, c3, d3, B3, m3, e3, rfl⟩ := h1.open_
  have z0 := h1.sz
  have u1 := szR_num z0
  have u2 := szR_den z0
  have HD := Lib.hid (show (x.den : Int) ≠ 0 by have := den_posI x; omega)
  have S := ((St.start w).addR h1)
  clear h1
  go_enter Tryz.func50, Tryz.ntmps50
  go_upto_region 1 with fail
  replace S := ((S.alloc 28 [.bool b3, .slice A3 n3 c3, .bool d3, .slice B3 m3 e3]).alloc 24 [.bool false, .slice none 0 0])
  simp only [World.size_alloc] at S
  obtain ⟨W1, eW, S⟩ := S.pack
  rw [eW]
  clear eW
  have r0_0 := S.c 1 0 rfl rfl
  have r0_1 := S.c 1 1 rfl rfl
  have r0_2 := S.c 1 2 rfl rfl
  have r0_3 := S.c 1 3 rfl rfl
  go_wp2_with fail
  refine ((gvalue_num (S.ri 0 rfl))).mono ?_
  rintro e W2 ⟨U2, rfl, hp, hk⟩
  obtain ⟨b4, A4, n4, c4, d4, B4, m4, e4, rfl⟩ := hp.open_
  replace S := (S.below hk).addQ hp
  clear hk hp
  clear r0_0 r0_1 r0_2 r0_3
  go_upto_region 2 with fail
  replace S := (S.alloc 28 [.bool b4, .slice A4 n4 c4, .bool d4, .slice B4 m4 e4])
  obtain ⟨W3, eW, S⟩ := S.pack
  rw [eW]
  clear eW
  generalize W2.heap.size = P1 at *
  have r2_0 := S.c 0 0 rfl rfl
  have r2_1 := S.c 0 1 rfl rfl
  have r2_2 := S.c 0 2 rfl rfl
  have r2_3 := S.c 0 3 rfl rfl
  go_wp2_with fail
  refine ((rdivide_num ((S.qi 0 rfl).n.num4 (by omega)) ((S.qi 0 rfl).d.num4 (by omega)) HD.out (show x.num.fdiv (x.den : Int) = x.floor by rw [Rat.floor_def, Int.fdiv_eq_ediv_of_nonneg _ (by omega)]))).mono ?_
  rintro e W4 ⟨U4, V4, rfl, hp, hr, hk⟩
  obtain ⟨b5, A5, n5, c5, rfl⟩ := hp.open3
  obtain ⟨b6, A6, n6, c6, rfl⟩ := hr.open3
  replace S := ((S.below hk).addI hp).addI hr
  clear hk hp hr
  clear r2_0 r2_1 r2_2 r2_3
  go_upto_region 3 with fail
  replace S := ((S.alloc 24 [.bool b5, .slice A5 n5 c5]).alloc 24 [.bool b6, .slice A6 n6 c6])
  simp only [World.size_alloc] at S
  obtain ⟨W5, eW, S⟩ := S.pack
  rw [eW]
  clear eW
  generalize W4.heap.size = P2 at *
  have r1_0 := S.c 3 0 rfl rfl
  have f1_0 := S.f 3 0 rfl
  have r1_1 := S.c 3 1 rfl rfl
  have f1_1 := S.f 3 1 rfl
  have r3_0 := S.c 1 0 rfl rfl
  have r3_1 := S.c 1 1 rfl rfl
  go_wp2
  replace S := (S.put2 3 rfl rfl rfl (x' := .bool b5) (y' := .slice A5 n5 c5))
  refine bodyPost_ret (v := .agg #[.bool b5, .slice A5 n5 c5]) (by simp [results, Tryz.results50, go_sem, S.c 3 0 rfl rfl, S.c 3 1 rfl rfl]) rfl ?_
  exact ⟨_, rfl, S.ii 1 rfl, S.k⟩
set_option maxRecDepth 100000 in
set_option maxHeartbeats 1000000 in
theorem gceil_num {w : World} {V1 : Value} {x : Rat} (h1 : RatNum w V1 x) : Calls Tryz.prog 51 #[V1] w (Gives x.ceil w) := by
  obtain ⟨b3, A3, n3, c3, d3, B3, m3, e3, rfl⟩ := h1.open_
  have z0 := h1.sz
  have u1 := szR_num z0
  have u2 := lenI_floor (-x)
  have u3 : lenI (-x).num = lenI x.num := by rw [Rat.neg_num, lenI_neg]
  have y0 := Nat.le_of_eq (szR_neg x)
  have y1 := lenI_floor (-x)
  have S := ((St.start w).addR h1)
  clear h1
  go_enter Tryz.func51, Tryz.ntmps51
  go_upto_region 1 with fail
  replace S := ((S.alloc 28 [.bool b3, .slice A3 n3 c3, .bool d3, .slice B3 m3 e3]).alloc 24 [.bool false, .slice none 0 0])
  simp only [World.size_alloc] at S
  obtain ⟨W1, eW, S⟩ := S.pack
  rw [eW]
  clear eW
  have r0_0 := S.c 1 0 rfl rfl
  have r0_1 := S.c 1 1 rfl rfl
  have r0_2 := S.c 1 2 rfl rfl
  have r0_3 := S.c 1 3 rfl rfl
  go_wp2_with fail
  refine ((gneg_num (S.ri 0 rfl))).mono ?_
  rintro e W2 ⟨U2, rfl, hp, hk⟩
  obtain ⟨b4, A4, n4, c4, d4, B4, m4, e4, rfl⟩ := hp.open_
  replace S := (S.below hk).addQ hp
  clear hk hp
  clear r0_0 r0_1 r0_2 r0_3
  go_wp2_with fail
  refine ((gfloor_num ((S.qi 0 rfl).num (by omega)))).mono ?_
  rintro e W3 ⟨U3, rfl, hp, hk⟩
  obtain ⟨b5, A5, n5, c5, rfl⟩ := hp.open3
  replace S := (S.below hk).addI hp
  clear hk hp
  go_wp2_with fail
  refine ((gives_eq (rneg_num ((S.ii 0 rfl).num (by omega))) (Rat.ceil_eq_neg_floor_neg x).symm)).mono ?_
  rintro e W4 ⟨U4, rfl, hp, hk⟩
  obtain ⟨b6, A6, n6, c6, rfl⟩ := hp.open3
  replace S := (S.below hk).addI hp
  clear hk hp
  have r1_0 := S.c 0 0 rfl rfl
  have f1_0 := S.f 0 0 rfl
  have r1_1 := S.c 0 1 rfl rfl
  have f1_1 := S.f 0 1 rfl
  go_wp2
  replace S := (S.put2 0 rfl rfl rfl (x' := .bool b6) (y' := .slice A6 n6 c6))
  refine bodyPost_ret (v := .agg #[.bool b6, .slice A6 n6 c6]) (by simp [results, Tryz.results51, go_sem, S.c 0 0 rfl rfl, S.c 0 1 rfl rfl]) rfl ?_
  exact ⟨_, rfl, S.ii 0 rfl, S.k⟩
set_option maxRecDepth 100000 in
theorem gzero_s {w : World} : Calls Tryz.prog 39 #[.agg #[.bool false, .slice none 0 0, .bool false, .slice none 0 0]] w fun e w' => e = .returned (.bool true) ∧ Keeps w w' := by
  have S := (St.start w).alloc 28 [.bool false, .slice none 0 0, .bool false, .slice none 0 0]
  go_enter Tryz.func39, Tryz.ntmps39
  go_upto_region 1 with fail
  obtain ⟨W1, eW, S⟩ := S.pack
  rw [eW]
  clear eW
  have r0_0 := S.c 0 0 rfl rfl
  have r0_1 := S.c 0 1 rfl rfl
  have r0_2 := S.c 0 2 rfl rfl
  have r0_3 := S.c 0 3 rfl rfl
  go_wp2
  go_ret
  exact ⟨rfl, S.k⟩
set_option maxRecDepth 100000 in
set_option maxHeartbeats 1000000 in
theorem lsame_ok {w : World} {V1 V2 : Value} {x y : Rat} (h1 : RatRep w V1 x) (h2 : RatRep w V2 y) (zl : szR x + szR y ≤ 99999) (hxy : decide (x = y) = true) : Calls Tryz.prog 20 #[V1, .int .i64 0, V2, .int .i64 0] w (fun e w' => e = .returned (.bool true) ∧ Keeps w w') := by
  obtain ⟨b3, A3, n3, c3, d3, B3, m3, e3, rfl⟩ := h1.open_
  obtain ⟨b4, A4, n4, c4, d4, B4, m4, e4, rfl⟩ := h2.open_
  have HXY := Lib.hid hxy
  clear hxy
  have S := (((St.start w).addQ h1).addQ h2)
  clear h1 h2
  go_enter Tryz.func20, Tryz.ntmps20
  go_upto_region 1 with fail
  replace S := ((S.alloc 28 [.bool b3, .slice A3 n3 c3, .bool d3, .slice B3 m3 e3]).alloc 28 [.bool b4, .slice A4 n4 c4, .bool d4, .slice B4 m4 e4])
  simp only [World.size_alloc] at S
  obtain ⟨W1, eW, S⟩ := S.pack
  rw [eW]
  clear eW
  have r0_0 := S.c 1 0 rfl rfl
  have r0_1 := S.c 1 1 rfl rfl
  have r0_2 := S.c 1 2 rfl rfl
  have r0_3 := S.c 1 3 rfl rfl
  have r1_0 := S.c 0 0 rfl rfl
  have r1_1 := S.c 0 1 rfl rfl
  have r1_2 := S.c 0 2 rfl rfl
  have r1_3 := S.c 0 3 rfl rfl
  go_wp2_with fail
  refine ((gsame_s (b := true) (S.qi 1 rfl) (S.qi 0 rfl) (by omega) HXY.out)).mono ?_
  rintro e W2 ⟨rfl, hk⟩
  replace S := S.below hk
  clear hk
  clear r0_0 r0_1 r0_2 r0_3 r1_0 r1_1 r1_2 r1_3
  go_wp2
  go_ret
  exact ⟨rfl, S.k⟩
set_option maxRecDepth 100000 in
set_option maxHeartbeats 1000000 in
theorem lsame_err {w : World} {c : Int} (hc : c ≠ 0) : Calls Tryz.prog 20 #[.agg #[.bool false, .slice none 0 0, .bool false, .slice none 0 0], .int .i64 c, .agg #[.bool false, .slice none 0 0, .bool false, .slice none 0 0], .int .i64 c] w (fun e w' => e = .returned (.bool true) ∧ Keeps w w') := by
  have t1 : (c == 0) = false := by simpa using hc
  have t2 : (c != 0) = true := by simpa using hc
  have S := (St.start w)
  go_enter Tryz.func20, Tryz.ntmps20
  go_upto_region 1 with fail
  replace S := ((S.alloc 28 [.bool false, .slice none 0 0, .bool false, .slice none 0 0]).alloc 28 [.bool false, .slice none 0 0, .bool false, .slice none 0 0])
  simp only [World.size_alloc] at S
  obtain ⟨W1, eW, S⟩ := S.pack
  rw [eW]
  clear eW
  have r0_0 := S.c 1 0 rfl rfl
  have r0_1 := S.c 1 1 rfl rfl
  have r0_2 := S.c 1 2 rfl rfl
  have r0_3 := S.c 1 3 rfl rfl
  go_wp2_with fail
  refine ((gzero_s)).mono ?_
  rintro e W2 ⟨rfl, hk⟩
  replace S := S.below hk
  clear hk
  clear r0_0 r0_1 r0_2 r0_3
  go_wp2
  go_ret
  exact ⟨rfl, S.k⟩
end Go.Proofs.YtmochehkkadjnaaGreatDoor
