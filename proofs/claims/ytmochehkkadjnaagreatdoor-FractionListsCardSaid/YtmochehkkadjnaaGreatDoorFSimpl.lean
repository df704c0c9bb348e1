/- The walk of fraction.Simplest. -/
import Derived.Test.YtmochehkkadjnaaGreatDoorFSimp
import Derived.Test.YtmochehkkadjnaaGreatDoorFVal
namespace Go.Proofs.YtmochehkkadjnaaGreatDoor
open Go.RowKit Go.Shelf

set_option maxRecDepth 100000 in
set_option maxHeartbeats 1000000 in
theorem fsp_order {w : World} {V1 V2 : Value} {x y : Rat} (h1 : RatNum w V1 x) (h2 : RatNum w V2 y) (hxy : y < x) : Calls Tryz.prog 40 #[V1, V2] w (RCode 5 0 w) := by
  obtain ⟨b3, A3, n3, c3, d3, B3, m3, e3, rfl⟩ := h1.open_
  have z0 := h1.sz
  obtain ⟨b4, A4, n4, c4, d4, B4, m4, e4, rfl⟩ := h2.open_
  have z1 := h2.sz
  obtain ⟨s1, hs1⟩ : ∃ s, cmpR x y = s := ⟨_, rfl⟩
  have t1 : decide (0 < s1) = true := by exact decide_eq_true (by rw [← hs1]; exact (cmpR_pos x y).2 hxy)
  have HS1 := Lib.hid hs1
  clear hs1
  have S := (((St.start w).addR h1).addR h2)
  clear h1 h2
  go_enter Tryz.func40, Tryz.ntmps40
  go_upto_region 1 with fail
  replace S := (((S.alloc 28 [.bool b3, .slice A3 n3 c3, .bool d3, .slice B3 m3 e3]).alloc 28 [.bool b4, .slice A4 n4 c4, .bool d4, .slice B4 m4 e4]).alloc 28 [.bool false, .slice none 0 0, .bool false, .slice none 0 0])
  simp only [World.size_alloc] at S
  obtain ⟨W1, eW, S⟩ := S.pack
  rw [eW]
  clear eW
  refine wp_region_steps (m := 4) rfl (by kernel_rfl) (fun iΦ vΦ wΦ => (List.getD [fun vΦ _ => vΦ = .agg #[.bool b3, .slice A3 n3 c3, .bool d3, .slice B3 m3 e3], fun vΦ wΦ => RatRep wΦ vΦ (x), fun vΦ _ => vΦ = .agg #[.bool b4, .slice A4 n4 c4, .bool d4, .slice B4 m4 e4], fun vΦ wΦ => RatRep wΦ vΦ (y)] iΦ (fun _ _ => True)) vΦ wΦ) [] ?_ ?_ ?_
  · intro i v w w' hi h hk
    rcases (show i = 0 ∨ i = 1 ∨ i = 2 ∨ i = 3 by omega) with rfl | rfl | rfl | rfl
    all_goals simp only [gz, gs] at h ⊢
    all_goals first | exact h | exact RatRep.below h hk
  · intro i hi vs w3 hk3 hd
    have S3 := S.drew.below hk3
    have a0 := S3.c 2 0 rfl rfl
    have a1 := S3.c 2 1 rfl rfl
    have a2 := S3.c 2 2 rfl rfl
    have a3 := S3.c 2 3 rfl rfl
    have a4 := S3.c 1 0 rfl rfl
    have a5 := S3.c 1 1 rfl rfl
    have a6 := S3.c 1 2 rfl rfl
    have a7 := S3.c 1 3 rfl rfl
    match i, hi with
    | 0, _ =>
      refine step_yes [] rfl (by kernel_rfl) fun K hK => ?_; simp only [frD] at hK ⊢; refine ⟨by rfl, ?_⟩; go_simp
      exact hK _ _ ⟨Below.refl _ _, rfl, by simp⟩
    | 1, _ =>
      have e0 := hd 0 (cm (by kernel_rfl)); simp only [gz] at e0
      refine step_yes [(0, some 6)] rfl (by kernel_rfl) fun K hK => ?_; simp only [frD, e0] at hK ⊢; refine ⟨by rfl, ?_⟩; go_simp
      refine ((fvalue_num (S3.ri 1 rfl))).mono ?_; rintro e w4 ⟨U, rfl, hr, hk4⟩; exact hK _ _ ⟨hk4, hr, by simp⟩
    | 2, _ =>
      refine step_yes [] rfl (by kernel_rfl) fun K hK => ?_; simp only [frD] at hK ⊢; refine ⟨by rfl, ?_⟩; go_simp
      exact hK _ _ ⟨Below.refl _ _, rfl, by simp⟩
    | 3, _ =>
      have h1 := hd 1 (cm (by kernel_rfl)); simp only [gz, gs] at h1; have e2 := hd 2 (cm (by kernel_rfl)); simp only [gz, gs] at e2
      refine step_yes [(1, some 7), (2, some 8)] rfl (by kernel_rfl) fun K hK => ?_; simp only [frD, e2] at hK ⊢; refine ⟨by rfl, ?_⟩; go_simp
      refine ((fvalue_num (S3.ri 0 rfl))).mono ?_; rintro e w4 ⟨U, rfl, hr, hk4⟩; exact hK _ _ ⟨hk4, hr, by simp⟩
    | i + 4, hi => exact absurd hi (by omega)
  · intro vs W2 hk3 hΦ _
    simp only [List.drop_succ_cons, List.drop_zero]
    rw [fr_frD, show (List.range 4).map _ = [(0, some 6), (1, some 7), (2, some 8), (3, some 9)] by kernel_rfl]
    have pa0 := hΦ 0 (by omega); simp only [gz] at pa0
    have pa1 := hΦ 1 (by omega); simp only [gz, gs] at pa1
    have pa2 := hΦ 2 (by omega); simp only [gz, gs] at pa2
    have pa3 := hΦ 3 (by omega); simp only [gz, gs] at pa3
    clear hΦ
    simp only [frD, pa0, pa2]
    simp only [Act.put, List.setIfInBounds_toArray, List.set_cons_zero, List.set_cons_succ]
    clear pa0 pa2
    generalize vs 1 = Upa1 at pa1 ⊢
    generalize vs 3 = Upa3 at pa3 ⊢
    replace S := S.drew.below hk3
    obtain ⟨b5, A5, n5, c5, d5, B5, m5, e5, rfl⟩ := pa1.open_
    replace S := S.addQ pa1
    clear pa1
    obtain ⟨b6, A6, n6, c6, d6, B6, m6, e6, rfl⟩ := pa3.open_
    replace S := S.addQ pa3
    clear pa3
    clear hk3
    have r0_0 := S.c 2 0 rfl rfl
    have f0_0 := S.f 2 0 rfl
    have r0_1 := S.c 2 1 rfl rfl
    have f0_1 := S.f 2 1 rfl
    have r0_2 := S.c 2 2 rfl rfl
    have f0_2 := S.f 2 2 rfl
    have r0_3 := S.c 2 3 rfl rfl
    have f0_3 := S.f 2 3 rfl
    have r1_0 := S.c 1 0 rfl rfl
    have f1_0 := S.f 1 0 rfl
    have r1_1 := S.c 1 1 rfl rfl
    have f1_1 := S.f 1 1 rfl
    have r1_2 := S.c 1 2 rfl rfl
    have f1_2 := S.f 1 2 rfl
    have r1_3 := S.c 1 3 rfl rfl
    have f1_3 := S.f 1 3 rfl
    go_upto_region 2 with fail
    replace S := ((S.put4 2 rfl rfl rfl (x' := .bool b5) (y' := .slice A5 n5 c5) (z' := .bool d5) (u' := .slice B5 m5 e5)).put4 1 rfl rfl rfl (x' := .bool b6) (y' := .slice A6 n6 c6) (z' := .bool d6) (u' := .slice B6 m6 e6))
    obtain ⟨W3, eW, S⟩ := S.pack
    rw [eW]
    clear eW
    clear r0_0 f0_0 r0_1 f0_1 r0_2 f0_2 r0_3 f0_3 r1_0 f1_0 r1_1 f1_1 r1_2 f1_2 r1_3 f1_3
    have r0_0 := S.c 2 0 rfl rfl
    have r0_1 := S.c 2 1 rfl rfl
    have r0_2 := S.c 2 2 rfl rfl
    have r0_3 := S.c 2 3 rfl rfl
    have r1_0 := S.c 1 0 rfl rfl
    have r1_1 := S.c 1 1 rfl rfl
    have r1_2 := S.c 1 2 rfl rfl
    have r1_3 := S.c 1 3 rfl rfl
    go_wp2_with fail
    refine ((fcompare_s ((S.qi 1 rfl).num (by omega)) ((S.qi 0 rfl).num (by omega)) HS1.out)).mono ?_
    rintro e W4 ⟨rfl, hk⟩
    replace S := S.below hk
    clear hk
    clear r0_0 r0_1 r0_2 r0_3 r1_0 r1_1 r1_2 r1_3
    have r2_0 := S.c 0 0 rfl rfl
    have f2_0 := S.f 0 0 rfl
    have r2_1 := S.c 0 1 rfl rfl
    have f2_1 := S.f 0 1 rfl
    have r2_2 := S.c 0 2 rfl rfl
    have f2_2 := S.f 0 2 rfl
    have r2_3 := S.c 0 3 rfl rfl
    have f2_3 := S.f 0 3 rfl
    go_wp2
    replace S := (S.put4 0 rfl rfl rfl (x' := .bool false) (y' := .slice none 0 0) (z' := .bool false) (u' := .slice none 0 0))
    refine bodyPost_ret (v := .tuple #[.agg #[.bool false, .slice none 0 0, .bool false, .slice none 0 0], .int .i64 5]) (by simp [results, Tryz.results40, go_sem, S.c 0 0 rfl rfl, S.c 0 1 rfl rfl, S.c 0 2 rfl rfl, S.c 0 3 rfl rfl]) rfl ?_
    exact ⟨_, rfl, by rw [if_neg (by decide)]; rfl, S.k⟩
set_option maxRecDepth 100000 in
set_option maxHeartbeats 1000000 in
theorem fsp_pos {w : World} {V1 V2 : Value} {x y : Rat} (h1 : RatNum w V1 x) (h2 : RatNum w V2 y) (hxy : x ≤ y) (hx : 0 < x) (zx : szR x ≤ 20000) (zy : szR y ≤ 20000) : Calls Tryz.prog 40 #[V1, V2] w (RCode 0 (simV x y) w) := by
  obtain ⟨b3, A3, n3, c3, d3, B3, m3, e3, rfl⟩ := h1.open_
  have z0 := h1.sz
  obtain ⟨b4, A4, n4, c4, d4, B4, m4, e4, rfl⟩ := h2.open_
  have z1 := h2.sz
  obtain ⟨s1, hs1⟩ : ∃ s, cmpR x y = s := ⟨_, rfl⟩
  obtain ⟨s2, hs2⟩ : ∃ s, x.num.sign = s := ⟨_, rfl⟩
  have t1 : decide (0 < s1) = false := by exact decide_eq_false (by rw [← hs1]; have := (cmpR_le x y).2 hxy; omega)
  have t2 : decide (0 < s2) = true := by exact decide_eq_true (by rw [← hs2]; exact (rsgn_pos x).2 hx)
  have HS1 := Lib.hid hs1
  clear hs1
  have HS2 := Lib.hid hs2
  clear hs2
  have S := (((St.start w).addR h1).addR h2)
  clear h1 h2
  go_enter Tryz.func40, Tryz.ntmps40
  go_upto_region 1 with fail
  replace S := (((S.alloc 28 [.bool b3, .slice A3 n3 c3, .bool d3, .slice B3 m3 e3]).alloc 28 [.bool b4, .slice A4 n4 c4, .bool d4, .slice B4 m4 e4]).alloc 28 [.bool false, .slice none 0 0, .bool false, .slice none 0 0])
  simp only [World.size_alloc] at S
  obtain ⟨W1, eW, S⟩ := S.pack
  rw [eW]
  clear eW
  refine wp_region_steps (m := 4) rfl (by kernel_rfl) (fun iΦ vΦ wΦ => (List.getD [fun vΦ _ => vΦ = .agg #[.bool b3, .slice A3 n3 c3, .bool d3, .slice B3 m3 e3], fun vΦ wΦ => RatRep wΦ vΦ (x), fun vΦ _ => vΦ = .agg #[.bool b4, .slice A4 n4 c4, .bool d4, .slice B4 m4 e4], fun vΦ wΦ => RatRep wΦ vΦ (y)] iΦ (fun _ _ => True)) vΦ wΦ) [] ?_ ?_ ?_
  · intro i v w w' hi h hk
    rcases (show i = 0 ∨ i = 1 ∨ i = 2 ∨ i = 3 by omega) with rfl | rfl | rfl | rfl
    all_goals simp only [gz, gs] at h ⊢
    all_goals first | exact h | exact RatRep.below h hk
  · intro i hi vs w3 hk3 hd
    have S3 := S.drew.below hk3
    have a0 := S3.c 2 0 rfl rfl
    have a1 := S3.c 2 1 rfl rfl
    have a2 := S3.c 2 2 rfl rfl
    have a3 := S3.c 2 3 rfl rfl
    have a4 := S3.c 1 0 rfl rfl
    have a5 := S3.c 1 1 rfl rfl
    have a6 := S3.c 1 2 rfl rfl
    have a7 := S3.c 1 3 rfl rfl
    match i, hi with
    | 0, _ =>
      refine step_yes [] rfl (by kernel_rfl) fun K hK => ?_; simp only [frD] at hK ⊢; refine ⟨by rfl, ?_⟩; go_simp
      exact hK _ _ ⟨Below.refl _ _, rfl, by simp⟩
    | 1, _ =>
      have e0 := hd 0 (cm (by kernel_rfl)); simp only [gz] at e0
      refine step_yes [(0, some 6)] rfl (by kernel_rfl) fun K hK => ?_; simp only [frD, e0] at hK ⊢; refine ⟨by rfl, ?_⟩; go_simp
      refine ((fvalue_num (S3.ri 1 rfl))).mono ?_; rintro e w4 ⟨U, rfl, hr, hk4⟩; exact hK _ _ ⟨hk4, hr, by simp⟩
    | 2, _ =>
      refine step_yes [] rfl (by kernel_rfl) fun K hK => ?_; simp only [frD] at hK ⊢; refine ⟨by rfl, ?_⟩; go_simp
      exact hK _ _ ⟨Below.refl _ _, rfl, by simp⟩
    | 3, _ =>
      have h1 := hd 1 (cm (by kernel_rfl)); simp only [gz, gs] at h1; have e2 := hd 2 (cm (by kernel_rfl)); simp only [gz, gs] at e2
      refine step_yes [(1, some 7), (2, some 8)] rfl (by kernel_rfl) fun K hK => ?_; simp only [frD, e2] at hK ⊢; refine ⟨by rfl, ?_⟩; go_simp
      refine ((fvalue_num (S3.ri 0 rfl))).mono ?_; rintro e w4 ⟨U, rfl, hr, hk4⟩; exact hK _ _ ⟨hk4, hr, by simp⟩
    | i + 4, hi => exact absurd hi (by omega)
  · intro vs W2 hk3 hΦ _
    simp only [List.drop_succ_cons, List.drop_zero]
    rw [fr_frD, show (List.range 4).map _ = [(0, some 6), (1, some 7), (2, some 8), (3, some 9)] by kernel_rfl]
    have pa0 := hΦ 0 (by omega); simp only [gz] at pa0
    have pa1 := hΦ 1 (by omega); simp only [gz, gs] at pa1
    have pa2 := hΦ 2 (by omega); simp only [gz, gs] at pa2
    have pa3 := hΦ 3 (by omega); simp only [gz, gs] at pa3
    clear hΦ
    simp only [frD, pa0, pa2]
    simp only [Act.put, List.setIfInBounds_toArray, List.set_cons_zero, List.set_cons_succ]
    clear pa0 pa2
    generalize vs 1 = Upa1 at pa1 ⊢
    generalize vs 3 = Upa3 at pa3 ⊢
    replace S := S.drew.below hk3
    obtain ⟨b5, A5, n5, c5, d5, B5, m5, e5, rfl⟩ := pa1.open_
    replace S := S.addQ pa1
    clear pa1
    obtain ⟨b6, A6, n6, c6, d6, B6, m6, e6, rfl⟩ := pa3.open_
    replace S := S.addQ pa3
    clear pa3
    clear hk3
    have r0_0 := S.c 2 0 rfl rfl
    have f0_0 := S.f 2 0 rfl
    have r0_1 := S.c 2 1 rfl rfl
    have f0_1 := S.f 2 1 rfl
    have r0_2 := S.c 2 2 rfl rfl
    have f0_2 := S.f 2 2 rfl
    have r0_3 := S.c 2 3 rfl rfl
    have f0_3 := S.f 2 3 rfl
    have r1_0 := S.c 1 0 rfl rfl
    have f1_0 := S.f 1 0 rfl
    have r1_1 := S.c 1 1 rfl rfl
    have f1_1 := S.f 1 1 rfl
    have r1_2 := S.c 1 2 rfl rfl
    have f1_2 := S.f 1 2 rfl
    have r1_3 := S.c 1 3 rfl rfl
    have f1_3 := S.f 1 3 rfl
    go_upto_region 2 with fail
    replace S := ((S.put4 2 rfl rfl rfl (x' := .bool b5) (y' := .slice A5 n5 c5) (z' := .bool d5) (u' := .slice B5 m5 e5)).put4 1 rfl rfl rfl (x' := .bool b6) (y' := .slice A6 n6 c6) (z' := .bool d6) (u' := .slice B6 m6 e6))
    obtain ⟨W3, eW, S⟩ := S.pack
    rw [eW]
    clear eW
    clear r0_0 f0_0 r0_1 f0_1 r0_2 f0_2 r0_3 f0_3 r1_0 f1_0 r1_1 f1_1 r1_2 f1_2 r1_3 f1_3
    have r0_0 := S.c 2 0 rfl rfl
    have r0_1 := S.c 2 1 rfl rfl
    have r0_2 := S.c 2 2 rfl rfl
    have r0_3 := S.c 2 3 rfl rfl
    have r1_0 := S.c 1 0 rfl rfl
    have r1_1 := S.c 1 1 rfl rfl
    have r1_2 := S.c 1 2 rfl rfl
    have r1_3 := S.c 1 3 rfl rfl
    go_wp2_with fail
    refine ((fcompare_s ((S.qi 1 rfl).num (by omega)) ((S.qi 0 rfl).num (by omega)) HS1.out)).mono ?_
    rintro e W4 ⟨rfl, hk⟩
    replace S := S.below hk
    clear hk
    clear r0_0 r0_1 r0_2 r0_3 r1_0 r1_1 r1_2 r1_3
    have r0_0 := S.c 2 0 rfl rfl
    have r0_1 := S.c 2 1 rfl rfl
    have r0_2 := S.c 2 2 rfl rfl
    have r0_3 := S.c 2 3 rfl rfl
    go_wp2_with fail
    refine ((fsign_s ((S.qi 1 rfl).num (by omega)) HS2.out)).mono ?_
    rintro e W5 ⟨rfl, hk⟩
    replace S := S.below hk
    clear hk
    clear r0_0 r0_1 r0_2 r0_3
    have r0_0 := S.c 2 0 rfl rfl
    have r0_1 := S.c 2 1 rfl rfl
    have r0_2 := S.c 2 2 rfl rfl
    have r0_3 := S.c 2 3 rfl rfl
    have r1_0 := S.c 1 0 rfl rfl
    have r1_1 := S.c 1 1 rfl rfl
    have r1_2 := S.c 1 2 rfl rfl
    have r1_3 := S.c 1 3 rfl rfl
    go_wp2_with fail
    refine ((fsimplest_num (x.den + y.den) _ _ _ x y ((S.qi 1 rfl).num (by omega)) ((S.qi 0 rfl).num (by omega)) hx hxy (Nat.le_refl _) zx zy)).mono ?_
    rintro e W6 ⟨U6, rfl, hp, hk⟩
    obtain ⟨b7, A7, n7, c7, d7, B7, m7, e7, rfl⟩ := hp.open_
    replace S := (S.below hk).addQ hp
    clear hk hp
    clear r0_0 r0_1 r0_2 r0_3 r1_0 r1_1 r1_2 r1_3
    have r2_0 := S.c 0 0 rfl rfl
    have f2_0 := S.f 0 0 rfl
    have r2_1 := S.c 0 1 rfl rfl
    have f2_1 := S.f 0 1 rfl
    have r2_2 := S.c 0 2 rfl rfl
    have f2_2 := S.f 0 2 rfl
    have r2_3 := S.c 0 3 rfl rfl
    have f2_3 := S.f 0 3 rfl
    go_wp2
    replace S := (S.put4 0 rfl rfl rfl (x' := .bool b7) (y' := .slice A7 n7 c7) (z' := .bool d7) (u' := .slice B7 m7 e7))
    refine bodyPost_ret (v := .tuple #[.agg #[.bool b7, .slice A7 n7 c7, .bool d7, .slice B7 m7 e7], .int .i64 0]) (by simp [results, Tryz.results40, go_sem, S.c 0 0 rfl rfl, S.c 0 1 rfl rfl, S.c 0 2 rfl rfl, S.c 0 3 rfl rfl]) rfl ?_
    exact ⟨_, rfl, by rw [if_pos rfl, simV_pos hx]; exact S.qi 0 rfl, S.k⟩
set_option maxRecDepth 100000 in
set_option maxHeartbeats 1000000 in
theorem fsp_neg {w : World} {V1 V2 : Value} {x y : Rat} (h1 : RatNum w V1 x) (h2 : RatNum w V2 y) (hxy : x ≤ y) (hy : y < 0) (zx : szR x ≤ 20000) (zy : szR y ≤ 20000) : Calls Tryz.prog 40 #[V1, V2] w (RCode 0 (simV x y) w) := by
  obtain ⟨b3, A3, n3, c3, d3, B3, m3, e3, rfl⟩ := h1.open_
  have z0 := h1.sz
  obtain ⟨b4, A4, n4, c4, d4, B4, m4, e4, rfl⟩ := h2.open_
  have z1 := h2.sz
  have hx : ¬ 0 < x := by grind
  obtain ⟨g1, g2, g3⟩ : 0 < -y ∧ -y ≤ -x ∧ (-y).den + (-x).den ≤ y.den + x.den := ⟨by grind, by grind, by rw [Rat.neg_den, Rat.neg_den]; exact Nat.le_refl _⟩
  obtain ⟨u1, u2⟩ : szR (-y) ≤ 20000 ∧ szR (-x) ≤ 20000 := ⟨by rw [szR_neg]; exact zy, by rw [szR_neg]; exact zx⟩
  have u3 := Nat.le_trans (simp_pos g1 g2 g3).2 u1
  have y0 := Nat.le_of_eq (szR_neg y)
  have y1 := Nat.le_of_eq (szR_neg x)
  have y2 := Nat.le_of_eq (szR_neg (simpR (y.den + x.den) (-y) (-x)))
  obtain ⟨s1, hs1⟩ : ∃ s, cmpR x y = s := ⟨_, rfl⟩
  obtain ⟨s2, hs2⟩ : ∃ s, x.num.sign = s := ⟨_, rfl⟩
  obtain ⟨s3, hs3⟩ : ∃ s, y.num.sign = s := ⟨_, rfl⟩
  have t1 : decide (0 < s1) = false := by exact decide_eq_false (by rw [← hs1]; have := (cmpR_le x y).2 hxy; omega)
  have t2 : decide (0 < s2) = false := by exact decide_eq_false (by rw [← hs2]; exact fun h => hx ((rsgn_pos x).1 h))
  have t3 : decide (s3 < 0) = true := by exact decide_eq_true (by rw [← hs3]; exact (rsgn_neg y).2 hy)
  have HS1 := Lib.hid hs1
  clear hs1
  have HS2 := Lib.hid hs2
  clear hs2
  have HS3 := Lib.hid hs3
  clear hs3
  have S := (((St.start w).addR h1).addR h2)
  clear h1 h2
  go_enter Tryz.func40, Tryz.ntmps40
  go_upto_region 1 with fail
  replace S := (((S.alloc 28 [.bool b3, .slice A3 n3 c3, .bool d3, .slice B3 m3 e3]).alloc 28 [.bool b4, .slice A4 n4 c4, .bool d4, .slice B4 m4 e4]).alloc 28 [.bool false, .slice none 0 0, .bool false, .slice none 0 0])
  simp only [World.size_alloc] at S
  obtain ⟨W1, eW, S⟩ := S.pack
  rw [eW]
  clear eW
  refine wp_region_steps (m := 4) rfl (by kernel_rfl) (fun iΦ vΦ wΦ => (List.getD [fun vΦ _ => vΦ = .agg #[.bool b3, .slice A3 n3 c3, .bool d3, .slice B3 m3 e3], fun vΦ wΦ => RatRep wΦ vΦ (x), fun vΦ _ => vΦ = .agg #[.bool b4, .slice A4 n4 c4, .bool d4, .slice B4 m4 e4], fun vΦ wΦ => RatRep wΦ vΦ (y)] iΦ (fun _ _ => True)) vΦ wΦ) [] ?_ ?_ ?_
  · intro i v w w' hi h hk
    rcases (show i = 0 ∨ i = 1 ∨ i = 2 ∨ i = 3 by omega) with rfl | rfl | rfl | rfl
    all_goals simp only [gz, gs] at h ⊢
    all_goals first | exact h | exact RatRep.below h hk
  · intro i hi vs w3 hk3 hd
    have S3 := S.drew.below hk3
    have a0 := S3.c 2 0 rfl rfl
    have a1 := S3.c 2 1 rfl rfl
    have a2 := S3.c 2 2 rfl rfl
    have a3 := S3.c 2 3 rfl rfl
    have a4 := S3.c 1 0 rfl rfl
    have a5 := S3.c 1 1 rfl rfl
    have a6 := S3.c 1 2 rfl rfl
    have a7 := S3.c 1 3 rfl rfl
    match i, hi with
    | 0, _ =>
      refine step_yes [] rfl (by kernel_rfl) fun K hK => ?_; simp only [frD] at hK ⊢; refine ⟨by rfl, ?_⟩; go_simp
      exact hK _ _ ⟨Below.refl _ _, rfl, by simp⟩
    | 1, _ =>
      have e0 := hd 0 (cm (by kernel_rfl)); simp only [gz] at e0
      refine step_yes [(0, some 6)] rfl (by kernel_rfl) fun K hK => ?_; simp only [frD, e0] at hK ⊢; refine ⟨by rfl, ?_⟩; go_simp
      refine ((fvalue_num (S3.ri 1 rfl))).mono ?_; rintro e w4 ⟨U, rfl, hr, hk4⟩; exact hK _ _ ⟨hk4, hr, by simp⟩
    | 2, _ =>
      refine step_yes [] rfl (by kernel_rfl) fun K hK => ?_; simp only [frD] at hK ⊢; refine ⟨by rfl, ?_⟩; go_simp
      exact hK _ _ ⟨Below.refl _ _, rfl, by simp⟩
    | 3, _ =>
      have h1 := hd 1 (cm (by kernel_rfl)); simp only [gz, gs] at h1; have e2 := hd 2 (cm (by kernel_rfl)); simp only [gz, gs] at e2
      refine step_yes [(1, some 7), (2, some 8)] rfl (by kernel_rfl) fun K hK => ?_; simp only [frD, e2] at hK ⊢; refine ⟨by rfl, ?_⟩; go_simp
      refine ((fvalue_num (S3.ri 0 rfl))).mono ?_; rintro e w4 ⟨U, rfl, hr, hk4⟩; exact hK _ _ ⟨hk4, hr, by simp⟩
    | i + 4, hi => exact absurd hi (by omega)
  · intro vs W2 hk3 hΦ _
    simp only [List.drop_succ_cons, List.drop_zero]
    rw [fr_frD, show (List.range 4).map _ = [(0, some 6), (1, some 7), (2, some 8), (3, some 9)] by kernel_rfl]
    have pa0 := hΦ 0 (by omega); simp only [gz] at pa0
    have pa1 := hΦ 1 (by omega); simp only [gz, gs] at pa1
    have pa2 := hΦ 2 (by omega); simp only [gz, gs] at pa2
    have pa3 := hΦ 3 (by omega); simp only [gz, gs] at pa3
    clear hΦ
    simp only [frD, pa0, pa2]
    simp only [Act.put, List.setIfInBounds_toArray, List.set_cons_zero, List.set_cons_succ]
    clear pa0 pa2
    generalize vs 1 = Upa1 at pa1 ⊢
    generalize vs 3 = Upa3 at pa3 ⊢
    replace S := S.drew.below hk3
    obtain ⟨b5, A5, n5, c5, d5, B5, m5, e5, rfl⟩ := pa1.open_
    replace S := S.addQ pa1
    clear pa1
    obtain ⟨b6, A6, n6, c6, d6, B6, m6, e6, rfl⟩ := pa3.open_
    replace S := S.addQ pa3
    clear pa3
    clear hk3
    have r0_0 := S.c 2 0 rfl rfl
    have f0_0 := S.f 2 0 rfl
    have r0_1 := S.c 2 1 rfl rfl
    have f0_1 := S.f 2 1 rfl
    have r0_2 := S.c 2 2 rfl rfl
    have f0_2 := S.f 2 2 rfl
    have r0_3 := S.c 2 3 rfl rfl
    have f0_3 := S.f 2 3 rfl
    have r1_0 := S.c 1 0 rfl rfl
    have f1_0 := S.f 1 0 rfl
    have r1_1 := S.c 1 1 rfl rfl
    have f1_1 := S.f 1 1 rfl
    have r1_2 := S.c 1 2 rfl rfl
    have f1_2 := S.f 1 2 rfl
    have r1_3 := S.c 1 3 rfl rfl
    have f1_3 := S.f 1 3 rfl
    go_upto_region 2 with fail
    replace S := ((S.put4 2 rfl rfl rfl (x' := .bool b5) (y' := .slice A5 n5 c5) (z' := .bool d5) (u' := .slice B5 m5 e5)).put4 1 rfl rfl rfl (x' := .bool b6) (y' := .slice A6 n6 c6) (z' := .bool d6) (u' := .slice B6 m6 e6))
    obtain ⟨W3, eW, S⟩ := S.pack
    rw [eW]
    clear eW
    clear r0_0 f0_0 r0_1 f0_1 r0_2 f0_2 r0_3 f0_3 r1_0 f1_0 r1_1 f1_1 r1_2 f1_2 r1_3 f1_3
    have r0_0 := S.c 2 0 rfl rfl
    have r0_1 := S.c 2 1 rfl rfl
    have r0_2 := S.c 2 2 rfl rfl
    have r0_3 := S.c 2 3 rfl rfl
    have r1_0 := S.c 1 0 rfl rfl
    have r1_1 := S.c 1 1 rfl rfl
    have r1_2 := S.c 1 2 rfl rfl
    have r1_3 := S.c 1 3 rfl rfl
    go_wp2_with fail
    refine ((fcompare_s ((S.qi 1 rfl).num (by omega)) ((S.qi 0 rfl).num (by omega)) HS1.out)).mono ?_
    rintro e W4 ⟨rfl, hk⟩
    replace S := S.below hk
    clear hk
    clear r0_0 r0_1 r0_2 r0_3 r1_0 r1_1 r1_2 r1_3
    have r0_0 := S.c 2 0 rfl rfl
    have r0_1 := S.c 2 1 rfl rfl
    have r0_2 := S.c 2 2 rfl rfl
    have r0_3 := S.c 2 3 rfl rfl
    go_wp2_with fail
    refine ((fsign_s ((S.qi 1 rfl).num (by omega)) HS2.out)).mono ?_
    rintro e W5 ⟨rfl, hk⟩
    replace S := S.below hk
    clear hk
    clear r0_0 r0_1 r0_2 r0_3
    have r1_0 := S.c 1 0 rfl rfl
    have r1_1 := S.c 1 1 rfl rfl
    have r1_2 := S.c 1 2 rfl rfl
    have r1_3 := S.c 1 3 rfl rfl
    go_wp2_with fail
    refine ((fsign_s ((S.qi 0 rfl).num (by omega)) HS3.out)).mono ?_
    rintro e W6 ⟨rfl, hk⟩
    replace S := S.below hk
    clear hk
    clear r1_0 r1_1 r1_2 r1_3
    go_upto_region 7 with fail
    refine wp_region_steps (m := 6) rfl (by kernel_rfl) (fun iΦ vΦ wΦ => (List.getD [fun vΦ _ => vΦ = .agg #[.bool b6, .slice A6 n6 c6, .bool d6, .slice B6 m6 e6], fun vΦ wΦ => RatRep wΦ vΦ (-y), fun vΦ _ => vΦ = .agg #[.bool b5, .slice A5 n5 c5, .bool d5, .slice B5 m5 e5], fun vΦ wΦ => RatRep wΦ vΦ (-x), fun vΦ wΦ => RatRep wΦ vΦ (simpR (y.den + x.den) (-y) (-x)), fun vΦ wΦ => RatRep wΦ vΦ (-(simpR (y.den + x.den) (-y) (-x)))] iΦ (fun _ _ => True)) vΦ wΦ) [] ?_ ?_ ?_
    · intro i v w w' hi h hk
      rcases (show i = 0 ∨ i = 1 ∨ i = 2 ∨ i = 3 ∨ i = 4 ∨ i = 5 by omega) with rfl | rfl | rfl | rfl | rfl | rfl
      all_goals simp only [gz, gs] at h ⊢
      all_goals first | exact h | exact RatRep.below h hk
    · intro i hi vs w3 hk3 hd
      have S3 := S.drew.below hk3
      have a0 := S3.c 2 0 rfl rfl
      have a1 := S3.c 2 1 rfl rfl
      have a2 := S3.c 2 2 rfl rfl
      have a3 := S3.c 2 3 rfl rfl
      have a4 := S3.c 1 0 rfl rfl
      have a5 := S3.c 1 1 rfl rfl
      have a6 := S3.c 1 2 rfl rfl
      have a7 := S3.c 1 3 rfl rfl
      match i, hi with
      | 0, _ =>
        refine step_yes [] rfl (by kernel_rfl) fun K hK => ?_; simp only [frD] at hK ⊢; refine ⟨by rfl, ?_⟩; go_simp
        exact hK _ _ ⟨Below.refl _ _, rfl, by simp⟩
      | 1, _ =>
        have e0 := hd 0 (cm (by kernel_rfl)); simp only [gz] at e0
        refine step_yes [(0, some 27)] rfl (by kernel_rfl) fun K hK => ?_; simp only [frD, e0] at hK ⊢; refine ⟨by rfl, ?_⟩; go_simp
        refine ((fneg_num ((S3.qi 0 rfl).num (by omega)))).mono ?_; rintro e w4 ⟨U, rfl, hr, hk4⟩; exact hK _ _ ⟨hk4, hr, by simp⟩
      | 2, _ =>
        refine step_yes [] rfl (by kernel_rfl) fun K hK => ?_; simp only [frD] at hK ⊢; refine ⟨by rfl, ?_⟩; go_simp
        exact hK _ _ ⟨Below.refl _ _, rfl, by simp⟩
      | 3, _ =>
        have h1 := hd 1 (cm (by kernel_rfl)); simp only [gz, gs] at h1; have e2 := hd 2 (cm (by kernel_rfl)); simp only [gz, gs] at e2
        refine step_yes [(1, some 28), (2, some 29)] rfl (by kernel_rfl) fun K hK => ?_; simp only [frD, e2] at hK ⊢; refine ⟨by rfl, ?_⟩; go_simp
        refine ((fneg_num ((S3.qi 1 rfl).num (by omega)))).mono ?_; rintro e w4 ⟨U, rfl, hr, hk4⟩; exact hK _ _ ⟨hk4, hr, by simp⟩
      | 4, _ =>
        have h1 := hd 1 (cm (by kernel_rfl)); simp only [gz, gs] at h1; have h3 := hd 3 (cm (by kernel_rfl)); simp only [gz, gs] at h3
        refine step_yes [(1, some 28), (3, some 30)] rfl (by kernel_rfl) fun K hK => ?_; simp only [frD] at hK ⊢; refine ⟨by rfl, ?_⟩; go_simp
        refine ((fsimplest_num (y.den + x.den) _ _ _ (-y) (-x) (h1.num (by omega)) (h3.num (by omega)) g1 g2 g3 u1 u2)).mono ?_; rintro e w4 ⟨U, rfl, hr, hk4⟩; exact hK _ _ ⟨hk4, hr, by simp⟩
      | 5, _ =>
        have h4 := hd 4 (cm (by kernel_rfl)); simp only [gz, gs] at h4
        refine step_yes [(4, some 31)] rfl (by kernel_rfl) fun K hK => ?_; simp only [frD] at hK ⊢; refine ⟨by rfl, ?_⟩; go_simp
        refine ((fneg_num (h4.num (by omega)))).mono ?_; rintro e w4 ⟨U, rfl, hr, hk4⟩; exact hK _ _ ⟨hk4, hr, by simp⟩
      | i + 6, hi => exact absurd hi (by omega)
    · intro vs W7 hk3 hΦ _
      simp only [List.drop_succ_cons, List.drop_zero]
      rw [fr_frD, show (List.range 6).map _ = [(0, some 27), (1, some 28), (2, some 29), (3, some 30), (4, some 31), (5, some 32)] by kernel_rfl]
      have pb0 := hΦ 0 (by omega); simp only [gz] at pb0
      have pb1 := hΦ 1 (by omega); simp only [gz, gs] at pb1
      have pb2 := hΦ 2 (by omega); simp only [gz, gs] at pb2
      have pb3 := hΦ 3 (by omega); simp only [gz, gs] at pb3
      have pb4 := hΦ 4 (by omega); simp only [gz, gs] at pb4
      have pb5 := hΦ 5 (by omega); simp only [gz, gs] at pb5
      clear hΦ
      simp only [frD, pb0, pb2]
      simp only [Act.put, List.setIfInBounds_toArray, List.set_cons_zero, List.set_cons_succ]
      clear pb0 pb2
      generalize vs 1 = Upb1 at pb1 ⊢
      generalize vs 3 = Upb3 at pb3 ⊢
      generalize vs 4 = Upb4 at pb4 ⊢
      generalize vs 5 = Upb5 at pb5 ⊢
      replace S := S.drew.below hk3
      clear pb1
      clear pb3
      clear pb4
      obtain ⟨b7, A7, n7, c7, d7, B7, m7, e7, rfl⟩ := pb5.open_
      replace S := S.addQ pb5
      clear pb5
      clear hk3
      have r2_0 := S.c 0 0 rfl rfl
      have f2_0 := S.f 0 0 rfl
      have r2_1 := S.c 0 1 rfl rfl
      have f2_1 := S.f 0 1 rfl
      have r2_2 := S.c 0 2 rfl rfl
      have f2_2 := S.f 0 2 rfl
      have r2_3 := S.c 0 3 rfl rfl
      have f2_3 := S.f 0 3 rfl
      go_wp2
      replace S := (S.put4 0 rfl rfl rfl (x' := .bool b7) (y' := .slice A7 n7 c7) (z' := .bool d7) (u' := .slice B7 m7 e7))
      refine bodyPost_ret (v := .tuple #[.agg #[.bool b7, .slice A7 n7 c7, .bool d7, .slice B7 m7 e7], .int .i64 0]) (by simp [results, Tryz.results40, go_sem, S.c 0 0 rfl rfl, S.c 0 1 rfl rfl, S.c 0 2 rfl rfl, S.c 0 3 rfl rfl]) rfl ?_
      exact ⟨_, rfl, by rw [if_pos rfl, simV_neg hx hy]; exact S.qi 0 rfl, S.k⟩
set_option maxRecDepth 100000 in
set_option maxHeartbeats 1000000 in
theorem fsp_zero {w : World} {V1 V2 : Value} {x y : Rat} (h1 : RatNum w V1 x) (h2 : RatNum w V2 y) (hxy : x ≤ y) (hx : ¬ 0 < x) (hy : ¬ y < 0) : Calls Tryz.prog 40 #[V1, V2] w (RCode 0 (simV x y) w) := by
  obtain ⟨b3, A3, n3, c3, d3, B3, m3, e3, rfl⟩ := h1.open_
  have z0 := h1.sz
  obtain ⟨b4, A4, n4, c4, d4, B4, m4, e4, rfl⟩ := h2.open_
  have z1 := h2.sz
  have y0 := szR_int 0
  obtain ⟨s1, hs1⟩ : ∃ s, cmpR x y = s := ⟨_, rfl⟩
  obtain ⟨s2, hs2⟩ : ∃ s, x.num.sign = s := ⟨_, rfl⟩
  obtain ⟨s3, hs3⟩ : ∃ s, y.num.sign = s := ⟨_, rfl⟩
  have t1 : decide (0 < s1) = false := by exact decide_eq_false (by rw [← hs1]; have := (cmpR_le x y).2 hxy; omega)
  have t2 : decide (0 < s2) = false := by exact decide_eq_false (by rw [← hs2]; exact fun h => hx ((rsgn_pos x).1 h))
  have t3 : decide (s3 < 0) = false := by exact decide_eq_false (by rw [← hs3]; exact fun h => hy ((rsgn_neg y).1 h))
  have HS1 := Lib.hid hs1
  clear hs1
  have HS2 := Lib.hid hs2
  clear hs2
  have HS3 := Lib.hid hs3
  clear hs3
  have S := (((St.start w).addR h1).addR h2)
  clear h1 h2
  go_enter Tryz.func40, Tryz.ntmps40
  go_upto_region 1 with fail
  replace S := (((S.alloc 28 [.bool b3, .slice A3 n3 c3, .bool d3, .slice B3 m3 e3]).alloc 28 [.bool b4, .slice A4 n4 c4, .bool d4, .slice B4 m4 e4]).alloc 28 [.bool false, .slice none 0 0, .bool false, .slice none 0 0])
  simp only [World.size_alloc] at S
  obtain ⟨W1, eW, S⟩ := S.pack
  rw [eW]
  clear eW
  refine wp_region_steps (m := 4) rfl (by kernel_rfl) (fun iΦ vΦ wΦ => (List.getD [fun vΦ _ => vΦ = .agg #[.bool b3, .slice A3 n3 c3, .bool d3, .slice B3 m3 e3], fun vΦ wΦ => RatRep wΦ vΦ (x), fun vΦ _ => vΦ = .agg #[.bool b4, .slice A4 n4 c4, .bool d4, .slice B4 m4 e4], fun vΦ wΦ => RatRep wΦ vΦ (y)] iΦ (fun _ _ => True)) vΦ wΦ) [] ?_ ?_ ?_
  · intro i v w w' hi h hk
    rcases (show i = 0 ∨ i = 1 ∨ i = 2 ∨ i = 3 by omega) with rfl | rfl | rfl | rfl
    all_goals simp only [gz, gs] at h ⊢
    all_goals first | exact h | exact RatRep.below h hk
  · intro i hi vs w3 hk3 hd
    have S3 := S.drew.below hk3
    have a0 := S3.c 2 0 rfl rfl
    have a1 := S3.c 2 1 rfl rfl
    have a2 := S3.c 2 2 rfl rfl
    have a3 := S3.c 2 3 rfl rfl
    have a4 := S3.c 1 0 rfl rfl
    have a5 := S3.c 1 1 rfl rfl
    have a6 := S3.c 1 2 rfl rfl
    have a7 := S3.c 1 3 rfl rfl
    match i, hi with
    | 0, _ =>
      refine step_yes [] rfl (by kernel_rfl) fun K hK => ?_; simp only [frD] at hK ⊢; refine ⟨by rfl, ?_⟩; go_simp
      exact hK _ _ ⟨Below.refl _ _, rfl, by simp⟩
    | 1, _ =>
      have e0 := hd 0 (cm (by kernel_rfl)); simp only [gz] at e0
      refine step_yes [(0, some 6)] rfl (by kernel_rfl) fun K hK => ?_; simp only [frD, e0] at hK ⊢; refine ⟨by rfl, ?_⟩; go_simp
      refine ((fvalue_num (S3.ri 1 rfl))).mono ?_; rintro e w4 ⟨U, rfl, hr, hk4⟩; exact hK _ _ ⟨hk4, hr, by simp⟩
    | 2, _ =>
      refine step_yes [] rfl (by kernel_rfl) fun K hK => ?_; simp only [frD] at hK ⊢; refine ⟨by rfl, ?_⟩; go_simp
      exact hK _ _ ⟨Below.refl _ _, rfl, by simp⟩
    | 3, _ =>
      have h1 := hd 1 (cm (by kernel_rfl)); simp only [gz, gs] at h1; have e2 := hd 2 (cm (by kernel_rfl)); simp only [gz, gs] at e2
      refine step_yes [(1, some 7), (2, some 8)] rfl (by kernel_rfl) fun K hK => ?_; simp only [frD, e2] at hK ⊢; refine ⟨by rfl, ?_⟩; go_simp
      refine ((fvalue_num (S3.ri 0 rfl))).mono ?_; rintro e w4 ⟨U, rfl, hr, hk4⟩; exact hK _ _ ⟨hk4, hr, by simp⟩
    | i + 4, hi => exact absurd hi (by omega)
  · intro vs W2 hk3 hΦ _
    simp only [List.drop_succ_cons, List.drop_zero]
    rw [fr_frD, show (List.range 4).map _ = [(0, some 6), (1, some 7), (2, some 8), (3, some 9)] by kernel_rfl]
    have pa0 := hΦ 0 (by omega); simp only [gz] at pa0
    have pa1 := hΦ 1 (by omega); simp only [gz, gs] at pa1
    have pa2 := hΦ 2 (by omega); simp only [gz, gs] at pa2
    have pa3 := hΦ 3 (by omega); simp only [gz, gs] at pa3
    clear hΦ
    simp only [frD, pa0, pa2]
    simp only [Act.put, List.setIfInBounds_toArray, List.set_cons_zero, List.set_cons_succ]
    clear pa0 pa2
    generalize vs 1 = Upa1 at pa1 ⊢
    generalize vs 3 = Upa3 at pa3 ⊢
    replace S := S.drew.below hk3
    obtain ⟨b5, A5, n5, c5, d5, B5, m5, e5, rfl⟩ := pa1.open_
    replace S := S.addQ pa1
    clear pa1
    obtain ⟨b6, A6, n6, c6, d6, B6, m6, e6, rfl⟩ := pa3.open_
    replace S := S.addQ pa3
    clear pa3
    clear hk3
    have r0_0 := S.c 2 0 rfl rfl
    have f0_0 := S.f 2 0 rfl
    have r0_1 := S.c 2 1 rfl rfl
    have f0_1 := S.f 2 1 rfl
    have r0_2 := S.c 2 2 rfl rfl
    have f0_2 := S.f 2 2 rfl
    have r0_3 := S.c 2 3 rfl rfl
    have f0_3 := S.f 2 3 rfl
    have r1_0 := S.c 1 0 rfl rfl
    have f1_0 := S.f 1 0 rfl
    have r1_1 := S.c 1 1 rfl rfl
    have f1_1 := S.f 1 1 rfl
    have r1_2 := S.c 1 2 rfl rfl
    have f1_2 := S.f 1 2 rfl
    have r1_3 := S.c 1 3 rfl rfl
    have f1_3 := S.f 1 3 rfl
    go_upto_region 2 with fail
    replace S := ((S.put4 2 rfl rfl rfl (x' := .bool b5) (y' := .slice A5 n5 c5) (z' := .bool d5) (u' := .slice B5 m5 e5)).put4 1 rfl rfl rfl (x' := .bool b6) (y' := .slice A6 n6 c6) (z' := .bool d6) (u' := .slice B6 m6 e6))
    obtain ⟨W3, eW, S⟩ := S.pack
    rw [eW]
    clear eW
    clear r0_0 f0_0 r0_1 f0_1 r0_2 f0_2 r0_3 f0_3 r1_0 f1_0 r1_1 f1_1 r1_2 f1_2 r1_3 f1_3
    have r0_0 := S.c 2 0 rfl rfl
    have r0_1 := S.c 2 1 rfl rfl
    have r0_2 := S.c 2 2 rfl rfl
    have r0_3 := S.c 2 3 rfl rfl
    have r1_0 := S.c 1 0 rfl rfl
    have r1_1 := S.c 1 1 rfl rfl
    have r1_2 := S.c 1 2 rfl rfl
    have r1_3 := S.c 1 3 rfl rfl
    go_wp2_with fail
    refine ((fcompare_s ((S.qi 1 rfl).num (by omega)) ((S.qi 0 rfl).num (by omega)) HS1.out)).mono ?_
    rintro e W4 ⟨rfl, hk⟩
    replace S := S.below hk
    clear hk
    clear r0_0 r0_1 r0_2 r0_3 r1_0 r1_1 r1_2 r1_3
    have r0_0 := S.c 2 0 rfl rfl
    have r0_1 := S.c 2 1 rfl rfl
    have r0_2 := S.c 2 2 rfl rfl
    have r0_3 := S.c 2 3 rfl rfl
    go_wp2_with fail
    refine ((fsign_s ((S.qi 1 rfl).num (by omega)) HS2.out)).mono ?_
    rintro e W5 ⟨rfl, hk⟩
    replace S := S.below hk
    clear hk
    clear r0_0 r0_1 r0_2 r0_3
    have r1_0 := S.c 1 0 rfl rfl
    have r1_1 := S.c 1 1 rfl rfl
    have r1_2 := S.c 1 2 rfl rfl
    have r1_3 := S.c 1 3 rfl rfl
    go_wp2_with fail
    refine ((fsign_s ((S.qi 0 rfl).num (by omega)) HS3.out)).mono ?_
    rintro e W6 ⟨rfl, hk⟩
    replace S := S.below hk
    clear hk
    clear r1_0 r1_1 r1_2 r1_3
    go_wp2_with fail
    refine ((whole_num 0 (by omega) (by omega))).mono ?_
    rintro e W7 ⟨U7, rfl, hp, hk⟩
    obtain ⟨b7, A7, n7, c7, d7, B7, m7, e7, rfl⟩ := hp.open_
    replace S := (S.below hk).addQ hp
    clear hk hp
    have r2_0 := S.c 0 0 rfl rfl
    have f2_0 := S.f 0 0 rfl
    have r2_1 := S.c 0 1 rfl rfl
    have f2_1 := S.f 0 1 rfl
    have r2_2 := S.c 0 2 rfl rfl
    have f2_2 := S.f 0 2 rfl
    have r2_3 := S.c 0 3 rfl rfl
    have f2_3 := S.f 0 3 rfl
    go_wp2
    replace S := (S.put4 0 rfl rfl rfl (x' := .bool b7) (y' := .slice A7 n7 c7) (z' := .bool d7) (u' := .slice B7 m7 e7))
    refine bodyPost_ret (v := .tuple #[.agg #[.bool b7, .slice A7 n7 c7, .bool d7, .slice B7 m7 e7], .int .i64 0]) (by simp [results, Tryz.results40, go_sem, S.c 0 0 rfl rfl, S.c 0 1 rfl rfl, S.c 0 2 rfl rfl, S.c 0 3 rfl rfl]) rfl ?_
    exact ⟨_, rfl, by rw [if_pos rfl, simV_zero hx hy]; exact S.qi 0 rfl, S.k⟩
def simC (x y : Rat) : Int := if y < x then 5 else 0
theorem fsimpl_num {w : World} {V1 V2 : Value} {x y : Rat} (h1 : RatNum w V1 x) (h2 : RatNum w V2 y) (zx : szR x ≤ 20000) (zy : szR y ≤ 20000) : Calls Tryz.prog 40 #[V1, V2] w (RCode (simC x y) (simV x y) w) := by
  unfold simC
  by_cases h : y < x
  · rw [if_pos h]
    refine (fsp_order h1 h2 h).mono ?_
    rintro e w' ⟨Q, rfl, hq, hk⟩
    exact ⟨Q, rfl, hq, hk⟩
  · rw [if_neg h]
    have h := Rat.not_lt.1 h
    by_cases hx : 0 < x
    · exact fsp_pos h1 h2 h hx zx zy
    · by_cases hy : y < 0
      · exact fsp_neg h1 h2 h hy zx zy
      · exact fsp_zero h1 h2 h hx hy
end Go.Proofs.YtmochehkkadjnaaGreatDoor
