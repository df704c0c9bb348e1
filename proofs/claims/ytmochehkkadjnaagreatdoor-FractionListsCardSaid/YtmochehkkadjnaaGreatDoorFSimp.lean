/- The walk of fraction.simplest. -/
import Derived.Test.YtmochehkkadjnaaGreatDoorMgSt2
namespace Go.Proofs.YtmochehkkadjnaaGreatDoor
open Go.RowKit Go.Shelf

theorem divC_pos {q : Rat} (h : 0 < q) : rdivC q = 0 := if_neg (fun e => by rw [e] at h; exact Rat.lt_irrefl h)
set_option maxRecDepth 100000 in
set_option maxHeartbeats 1000000 in
theorem fsimplest_up {w : World} {V1 V2 : Value} {x y : Rat} (h1 : RatNum w V1 x) (h2 : RatNum w V2 y) (hc : ((x.ceil : Int) : Rat) ≤ y) (zx : szR x ≤ 20000) : Calls Tryz.prog 102 #[V1, V2] w (RGives ((x.ceil : Int) : Rat) w) := by
  obtain ⟨b3, A3, n3, c3, d3, B3, m3, e3, rfl⟩ := h1.open_
  have z0 := h1.sz
  obtain ⟨b4, A4, n4, c4, d4, B4, m4, e4, rfl⟩ := h2.open_
  have z1 := h2.sz
  have zn := szR_num zx
  have zc := szR_int x.ceil
  have y0 := lenI_ceil x
  obtain ⟨s1, hs1⟩ : ∃ s, cmpR (((x.ceil : Int) : Rat)) y = s := ⟨_, rfl⟩
  have t1 : decide (s1 ≤ 0) = true := by exact decide_eq_true (by rw [← hs1]; exact (cmpR_le _ _).2 hc)
  have HS1 := Lib.hid hs1
  clear hs1
  have S := (((St.start w).addR h1).addR h2)
  clear h1 h2
  go_enter Tryz.func102, Tryz.ntmps102
  go_upto_region 1 with fail
  replace S := (((S.alloc 28 [.bool b3, .slice A3 n3 c3, .bool d3, .slice B3 m3 e3]).alloc 28 [.bool b4, .slice A4 n4 c4, .bool d4, .slice B4 m4 e4]).alloc 28 [.bool false, .slice none 0 0, .bool false, .slice none 0 0])
  simp only [World.size_alloc] at S
  obtain ⟨W1, eW, S⟩ := S.pack
  rw [eW]
  clear eW
  have r0_0 := S.c 2 0 rfl rfl
  have r0_1 := S.c 2 1 rfl rfl
  have r0_2 := S.c 2 2 rfl rfl
  have r0_3 := S.c 2 3 rfl rfl
  go_wp2_with fail
  refine ((fceil_num (S.ri 1 rfl))).mono ?_
  rintro e W2 ⟨U2, rfl, hp, hk⟩
  obtain ⟨b5, A5, n5, c5, rfl⟩ := hp.open3
  replace S := (S.below hk).addI hp
  clear hk hp
  clear r0_0 r0_1 r0_2 r0_3
  go_wp2_with fail
  refine ((of_num 1 (by omega) (by omega))).mono ?_
  rintro e W3 ⟨U3, rfl, hp, hk⟩
  obtain ⟨b6, A6, n6, c6, rfl⟩ := hp.open3
  replace S := (S.below hk).addI hp
  clear hk hp
  replace S := S.addQ (RatRep.whole (S.ii 1 rfl) (S.ii 0 rfl))
  go_upto_region 2 with fail
  replace S := (S.alloc 28 [.bool b5, .slice A5 n5 c5, .bool b6, .slice A6 n6 c6])
  obtain ⟨W4, eW, S⟩ := S.pack
  rw [eW]
  clear eW
  generalize W3.heap.size = P1 at *
  have r1_0 := S.c 2 0 rfl rfl
  have r1_1 := S.c 2 1 rfl rfl
  have r1_2 := S.c 2 2 rfl rfl
  have r1_3 := S.c 2 3 rfl rfl
  have r3_0 := S.c 0 0 rfl rfl
  have r3_1 := S.c 0 1 rfl rfl
  have r3_2 := S.c 0 2 rfl rfl
  have r3_3 := S.c 0 3 rfl rfl
  go_wp2_with fail
  refine ((fcompare_s ((S.qi 0 rfl).num (by omega)) (S.ri 3 rfl) HS1.out)).mono ?_
  rintro e W5 ⟨rfl, hk⟩
  replace S := S.below hk
  clear hk
  clear r1_0 r1_1 r1_2 r1_3 r3_0 r3_1 r3_2 r3_3
  have r2_0 := S.c 1 0 rfl rfl
  have f2_0 := S.f 1 0 rfl
  have r2_1 := S.c 1 1 rfl rfl
  have f2_1 := S.f 1 1 rfl
  have r2_2 := S.c 1 2 rfl rfl
  have f2_2 := S.f 1 2 rfl
  have r2_3 := S.c 1 3 rfl rfl
  have f2_3 := S.f 1 3 rfl
  have r3_0 := S.c 0 0 rfl rfl
  have r3_1 := S.c 0 1 rfl rfl
  have r3_2 := S.c 0 2 rfl rfl
  have r3_3 := S.c 0 3 rfl rfl
  go_wp2
  replace S := (S.put4 1 rfl rfl rfl (x' := .bool b5) (y' := .slice A5 n5 c5) (z' := .bool b6) (u' := .slice A6 n6 c6))
  refine bodyPost_ret (v := .agg #[.bool b5, .slice A5 n5 c5, .bool b6, .slice A6 n6 c6]) (by simp [results, Tryz.results102, go_sem, S.c 1 0 rfl rfl, S.c 1 1 rfl rfl, S.c 1 2 rfl rfl, S.c 1 3 rfl rfl]) rfl ?_
  exact ⟨_, rfl, S.qi 0 rfl, S.k⟩
set_option maxRecDepth 100000 in
set_option maxHeartbeats 2000000 in
theorem fsimplest_step {n : Nat} {w : World} {V1 V2 : Value} {x y : Rat} (h1 : RatNum w V1 x) (h2 : RatNum w V2 y) (hx0 : 0 < x) (hxy : x ≤ y) (hn : x.den + y.den ≤ n + 1) (hc : ¬ ((x.ceil : Int) : Rat) ≤ y) (zx : szR x ≤ 20000) (zy : szR y ≤ 20000) (IH : ∀ w V1 V2, RatNum w V1 (1 / (y - ((x.floor : Int) : Rat))) → RatNum w V2 (1 / (x - ((x.floor : Int) : Rat))) → Calls Tryz.prog 102 #[V1, V2] w (RGives (simpR n (1 / (y - ((x.floor : Int) : Rat))) (1 / (x - ((x.floor : Int) : Rat)))) w)) : Calls Tryz.prog 102 #[V1, V2] w (RGives (simpR (n + 1) x y) w) := by
  obtain ⟨b3, A3, n3, c3, d3, B3, m3, e3, rfl⟩ := h1.open_
  have z0 := h1.sz
  obtain ⟨b4, A4, n4, c4, d4, B4, m4, e4, rfl⟩ := h2.open_
  have z1 := h2.sz
  obtain ⟨g1, g2, g3, g4, g5, g6, g7⟩ := simp_step hx0 hxy hn hc rfl
  obtain ⟨q1, q2⟩ := simp_pos (n := n) g3 g4 g5
  have q3 := szR_div 1 (simpR n (1 / (y - ((x.floor : Int) : Rat))) (1 / (x - ((x.floor : Int) : Rat)))) (fun e => by rw [e] at q1; exact Rat.lt_irrefl q1)
  have q4 : szR (1 : Rat) ≤ 1 := Nat.le_trans (szR_int 1) (by have := lenI_one; omega)
  have q5 := lenI_one
  have zn := szR_num zx
  have zc := szR_int x.ceil
  have zf := szR_int x.floor
  have y0 := lenI_ceil x
  have y1 := lenI_floor x
  have y2 := szR_int 1
  have y3 := szR_sub y (((x.floor : Int) : Rat))
  have y4 := szR_sub x (((x.floor : Int) : Rat))
  have y5 := szR_add (((x.floor : Int) : Rat)) (1 / simpR n (1 / (y - ((x.floor : Int) : Rat))) (1 / (x - ((x.floor : Int) : Rat))))
  obtain ⟨s1, hs1⟩ : ∃ s, cmpR (((x.ceil : Int) : Rat)) y = s := ⟨_, rfl⟩
  have t1 : decide (s1 ≤ 0) = false := by exact decide_eq_false (by rw [← hs1]; exact fun h => hc ((cmpR_le _ _).1 h))
  have HS1 := Lib.hid hs1
  clear hs1
  have S := (((St.start w).addR h1).addR h2)
  clear h1 h2
  go_enter Tryz.func102, Tryz.ntmps102
  go_upto_region 1 with fail
  replace S := (((S.alloc 28 [.bool b3, .slice A3 n3 c3, .bool d3, .slice B3 m3 e3]).alloc 28 [.bool b4, .slice A4 n4 c4, .bool d4, .slice B4 m4 e4]).alloc 28 [.bool false, .slice none 0 0, .bool false, .slice none 0 0])
  simp only [World.size_alloc] at S
  obtain ⟨W1, eW, S⟩ := S.pack
  rw [eW]
  clear eW
  have r0_0 := S.c 2 0 rfl rfl
  have r0_1 := S.c 2 1 rfl rfl
  have r0_2 := S.c 2 2 rfl rfl
  have r0_3 := S.c 2 3 rfl rfl
  go_wp2_with fail
  refine ((fceil_num (S.ri 1 rfl))).mono ?_
  rintro e W2 ⟨U2, rfl, hp, hk⟩
  obtain ⟨b5, A5, n5, c5, rfl⟩ := hp.open3
  replace S := (S.below hk).addI hp
  clear hk hp
  clear r0_0 r0_1 r0_2 r0_3
  go_wp2_with fail
  refine ((of_num 1 (by omega) (by omega))).mono ?_
  rintro e W3 ⟨U3, rfl, hp, hk⟩
  obtain ⟨b6, A6, n6, c6, rfl⟩ := hp.open3
  replace S := (S.below hk).addI hp
  clear hk hp
  replace S := S.addQ (RatRep.whole (S.ii 1 rfl) (S.ii 0 rfl))
  go_upto_region 2 with fail
  replace S := (S.alloc 28 [.bool b5, .slice A5 n5 c5, .bool b6, .slice A6 n6 c6])
  obtain ⟨W4, eW, S⟩ := S.pack
  rw [eW]
  clear eW
  generalize W3.heap.size = P1 at *
  have r1_0 := S.c 2 0 rfl rfl
  have r1_1 := S.c 2 1 rfl rfl
  have r1_2 := S.c 2 2 rfl rfl
  have r1_3 := S.c 2 3 rfl rfl
  have r3_0 := S.c 0 0 rfl rfl
  have r3_1 := S.c 0 1 rfl rfl
  have r3_2 := S.c 0 2 rfl rfl
  have r3_3 := S.c 0 3 rfl rfl
  go_wp2_with fail
  refine ((fcompare_s ((S.qi 0 rfl).num (by omega)) (S.ri 3 rfl) HS1.out)).mono ?_
  rintro e W5 ⟨rfl, hk⟩
  replace S := S.below hk
  clear hk
  clear r1_0 r1_1 r1_2 r1_3 r3_0 r3_1 r3_2 r3_3
  have r0_0 := S.c 3 0 rfl rfl
  have r0_1 := S.c 3 1 rfl rfl
  have r0_2 := S.c 3 2 rfl rfl
  have r0_3 := S.c 3 3 rfl rfl
  go_wp2_with fail
  refine ((ffloor_num (S.ri 4 rfl))).mono ?_
  rintro e W6 ⟨U6, rfl, hp, hk⟩
  obtain ⟨b7, A7, n7, c7, rfl⟩ := hp.open3
  replace S := (S.below hk).addI hp
  clear hk hp
  clear r0_0 r0_1 r0_2 r0_3
  go_wp2_with fail
  refine ((of_num 1 (by omega) (by omega))).mono ?_
  rintro e W7 ⟨U7, rfl, hp, hk⟩
  obtain ⟨b8, A8, n8, c8, rfl⟩ := hp.open3
  replace S := (S.below hk).addI hp
  clear hk hp
  replace S := S.addQ (RatRep.whole (S.ii 1 rfl) (S.ii 0 rfl))
  go_wp2_with fail
  replace S := (S.alloc 28 [.bool b7, .slice A7 n7 c7, .bool b8, .slice A8 n8 c8])
  obtain ⟨W8, eW, S⟩ := S.pack
  rw [eW]
  clear eW
  generalize W7.heap.size = P2 at *
  refine ((whole_num 1 (by omega) (by omega))).mono ?_
  rintro e W9 ⟨U9, rfl, hp, hk⟩
  obtain ⟨b9, A9, n9, c9, d9, B9, m9, e9, rfl⟩ := hp.open_
  replace S := (S.below hk).addQ hp
  clear hk hp
  go_upto_region 6 with fail
  replace S := (S.alloc 28 [.bool b9, .slice A9 n9 c9, .bool d9, .slice B9 m9 e9])
  obtain ⟨W10, eW, S⟩ := S.pack
  rw [eW]
  clear eW
  generalize W9.heap.size = P3 at *
  refine wp_region_late 7 10 (m := 9) rfl (by kernel_rfl) (fun iΦ vΦ wΦ => (List.getD [fun vΦ _ => vΦ = .agg #[.bool b9, .slice A9 n9 c9, .bool d9, .slice B9 m9 e9], fun vΦ _ => vΦ = .agg #[.bool b4, .slice A4 n4 c4, .bool d4, .slice B4 m4 e4], fun vΦ _ => vΦ = .agg #[.bool b7, .slice A7 n7 c7, .bool b8, .slice A8 n8 c8], fun vΦ wΦ => RatRep wΦ vΦ (y - (((x.floor : Int) : Rat))), fun vΦ wΦ => TupQ (0) (1 / (y - ((x.floor : Int) : Rat))) vΦ wΦ, fun vΦ wΦ => TupQ (0) (1 / (y - ((x.floor : Int) : Rat))) vΦ wΦ, fun vΦ wΦ => FstQ (0) (1 / (y - ((x.floor : Int) : Rat))) vΦ wΦ, fun vΦ _ => vΦ = .int .i64 (0), fun vΦ wΦ => ∃ b, vΦ = .pointer (some ⟨b, 0, none⟩) ∧ W10.heap.size ≤ b ∧ Own wΦ b 28 [.bool false, .slice none 0 0, .bool false, .slice none 0 0]] iΦ (fun _ _ => True)) vΦ wΦ) [8] (by simp) ?_ ?_ ?_ ?_
  · intro i v w w' hi h hk
    rcases (show i = 0 ∨ i = 1 ∨ i = 2 ∨ i = 3 ∨ i = 4 ∨ i = 5 ∨ i = 6 ∨ i = 7 ∨ i = 8 by omega) with rfl | rfl | rfl | rfl | rfl | rfl | rfl | rfl | rfl
    all_goals simp only [gz, gs] at h ⊢
    all_goals first | exact h | exact RatRep.below h hk | exact TupQ.below h hk | exact FstQ.below h hk | exact h.elim fun b ⟨h1, h2, h3⟩ => ⟨b, h1, h2, h3.below hk⟩
  · intro i hi vs w3 hk3 hd
    have S3 := S.drew.below hk3
    have a0 := S3.c 4 0 rfl rfl
    have a1 := S3.c 4 1 rfl rfl
    have a2 := S3.c 4 2 rfl rfl
    have a3 := S3.c 4 3 rfl rfl
    have a4 := S3.c 1 0 rfl rfl
    have a5 := S3.c 1 1 rfl rfl
    have a6 := S3.c 1 2 rfl rfl
    have a7 := S3.c 1 3 rfl rfl
    have a8 := S3.c 0 0 rfl rfl
    have a9 := S3.c 0 1 rfl rfl
    have a10 := S3.c 0 2 rfl rfl
    have a11 := S3.c 0 3 rfl rfl
    match i, hi with
    | 0, _ =>
      refine step_yes [] rfl (by kernel_rfl) fun K hK => ?_; simp only [frD] at hK ⊢; refine ⟨by rfl, ?_⟩; go_simp
      exact hK _ _ ⟨Below.refl _ _, rfl, by simp⟩
    | 1, _ =>
      refine step_yes [] rfl (by kernel_rfl) fun K hK => ?_; simp only [frD] at hK ⊢; refine ⟨by rfl, ?_⟩; go_simp
      exact hK _ _ ⟨Below.refl _ _, rfl, by simp⟩
    | 2, _ =>
      refine step_yes [] rfl (by kernel_rfl) fun K hK => ?_; simp only [frD] at hK ⊢; refine ⟨by rfl, ?_⟩; go_simp
      exact hK _ _ ⟨Below.refl _ _, rfl, by simp⟩
    | 3, _ =>
      have e1 := hd 1 (cm (by kernel_rfl)); simp only [gz, gs] at e1; have e2 := hd 2 (cm (by kernel_rfl)); simp only [gz, gs] at e2
      refine step_yes [(1, some 30), (2, some 31)] rfl (by kernel_rfl) fun K hK => ?_; simp only [frD, e1, e2] at hK ⊢; refine ⟨by rfl, ?_⟩; go_simp
      refine ((fsub_num (S3.ri 7 rfl) ((S3.qi 1 rfl).num (by omega)))).mono ?_; rintro e w4 ⟨U, rfl, hr, hk4⟩; exact hK _ _ ⟨hk4, hr, by simp⟩
    | 4, _ =>
      have e0 := hd 0 (cm (by kernel_rfl)); simp only [gz] at e0; have h3 := hd 3 (cm (by kernel_rfl)); simp only [gz, gs] at h3
      refine step_yes [(0, some 29), (3, some 32)] rfl (by kernel_rfl) fun K hK => ?_; simp only [frD, e0] at hK ⊢; refine ⟨by rfl, ?_⟩; go_simp
      refine ((rcode_eq (fdivide_num ((S3.qi 0 rfl).num (by omega)) (h3.num (by omega))) (divC_pos g2) rfl)).mono ?_; rintro e w4 ⟨U, rfl, hr, hk4⟩; exact hK _ _ ⟨hk4, ⟨U, rfl, hr⟩, by simp⟩
    | 5, _ =>
      have h4 := hd 4 (cm (by kernel_rfl)); simp only [gz, gs] at h4; obtain ⟨Q9, q9, hQ9⟩ := h4
      refine step_yes [(4, some 33)] rfl (by kernel_rfl) fun K hK => ?_; simp only [frD, q9] at hK ⊢; refine ⟨by rfl, ?_⟩; go_simp
      exact hK _ _ ⟨Below.refl _ _, ⟨Q9, rfl, hQ9⟩, by simp⟩
    | 6, _ =>
      have h5 := hd 5 (cm (by kernel_rfl)); simp only [gz, gs] at h5; obtain ⟨Q9, q9, hQ9⟩ := h5
      refine step_yes [(5, some 28)] rfl (by kernel_rfl) fun K hK => ?_; simp only [frD, q9] at hK ⊢; refine ⟨by rfl, ?_⟩; go_simp
      exact hK _ _ ⟨Below.refl _ _, hQ9, by simp⟩
    | 7, _ =>
      have h5 := hd 5 (cm (by kernel_rfl)); simp only [gz, gs] at h5; obtain ⟨Q9, q9, hQ9⟩ := h5
      refine step_yes [(5, some 28)] rfl (by kernel_rfl) fun K hK => ?_; simp only [frD, q9] at hK ⊢; refine ⟨by rfl, ?_⟩; go_simp
      exact hK _ _ ⟨Below.refl _ _, rfl, by simp⟩
    | 8, _ =>
      refine step_yes [] rfl (by kernel_rfl) fun K hK => ?_; simp only [frD] at hK ⊢; refine ⟨by rfl, ?_⟩; go_simp
      exact hK _ _ ⟨(Below.refl _ _).alloc (Nat.le_refl _) _, ⟨_, rfl, hk3.size, Own.new w3 _ _⟩, fun _ => ⟨rfl, by simp⟩⟩
    | i + 9, hi => exact absurd hi (by omega)
  · intro vs w3 hk3 hd
    have h5 := hd 5 (cm (by kernel_rfl)); simp only [gz, gs] at h5; obtain ⟨Q9, q9, hQ9⟩ := h5
    refine pure_at (v := .int .i64 0) [(5, some 28)] rfl (by kernel_rfl) (by exact rfl) fun w4 K hK => ?_; simp only [frD, q9] at hK ⊢; refine ⟨by rfl, ?_⟩; go_simp; exact hK
  · intro vs W11 hk3 hΦ _
    simp only [List.drop_succ_cons, List.drop_zero]
    rw [fr_frD, show (List.range 9).map _ = [(0, some 29), (1, some 30), (2, some 31), (3, some 32), (4, some 33), (5, some 28), (6, some 34), (7, some 35), (8, some 8)] by kernel_rfl]
    have pa0 := hΦ 0 (by omega); simp only [gz] at pa0
    have pa1 := hΦ 1 (by omega); simp only [gz, gs] at pa1
    have pa2 := hΦ 2 (by omega); simp only [gz, gs] at pa2
    have pa3 := hΦ 3 (by omega); simp only [gz, gs] at pa3
    have pa4 := hΦ 4 (by omega); simp only [gz, gs] at pa4
    have pa5 := hΦ 5 (by omega); simp only [gz, gs] at pa5
    have pa6 := hΦ 6 (by omega); simp only [gz, gs] at pa6
    have pa7 := hΦ 7 (by omega); simp only [gz, gs] at pa7
    have pa8 := hΦ 8 (by omega); simp only [gz, gs] at pa8
    clear hΦ
    obtain ⟨bpa8, qA8, hlA8, hOA8⟩ := pa8
    simp only [frD, pa0, pa1, pa2, pa7, qA8]
    simp only [Act.put, List.setIfInBounds_toArray, List.set_cons_zero, List.set_cons_succ]
    clear pa0 pa1 pa2 pa7
    generalize vs 3 = Upa3 at pa3 ⊢
    generalize vs 4 = Upa4 at pa4 ⊢
    generalize vs 5 = Upa5 at pa5 ⊢
    generalize vs 6 = Upa6 at pa6 ⊢
    replace S := S.drew.box (S.drew.below hk3) hOA8 hlA8
    clear qA8 hlA8 hOA8
    clear pa3
    clear pa4
    clear pa5
    have hp := FstQ.rep pa6
    obtain ⟨b10, A10, n10, c10, d10, B10, m10, e10, rfl⟩ := hp.open_
    replace S := S.addQ hp
    clear hp pa6
    clear hk3
    have r6_0 := S.c 0 0 rfl rfl
    have f6_0 := S.f 0 0 rfl
    have r6_1 := S.c 0 1 rfl rfl
    have f6_1 := S.f 0 1 rfl
    have r6_2 := S.c 0 2 rfl rfl
    have f6_2 := S.f 0 2 rfl
    have r6_3 := S.c 0 3 rfl rfl
    have f6_3 := S.f 0 3 rfl
    go_upto_region 7 with fail
    replace S := (S.put4 0 rfl rfl rfl (x' := .bool b10) (y' := .slice A10 n10 c10) (z' := .bool d10) (u' := .slice B10 m10 e10))
    obtain ⟨W12, eW, S⟩ := S.pack
    rw [eW]
    clear eW
    clear r6_0 f6_0 r6_1 f6_1 r6_2 f6_2 r6_3 f6_3
    refine wp_region_late 7 10 (m := 9) rfl (by kernel_rfl) (fun iΦ vΦ wΦ => (List.getD [fun vΦ _ => vΦ = .agg #[.bool b9, .slice A9 n9 c9, .bool d9, .slice B9 m9 e9], fun vΦ _ => vΦ = .agg #[.bool b3, .slice A3 n3 c3, .bool d3, .slice B3 m3 e3], fun vΦ _ => vΦ = .agg #[.bool b7, .slice A7 n7 c7, .bool b8, .slice A8 n8 c8], fun vΦ wΦ => RatRep wΦ vΦ (x - (((x.floor : Int) : Rat))), fun vΦ wΦ => TupQ (0) (1 / (x - ((x.floor : Int) : Rat))) vΦ wΦ, fun vΦ wΦ => TupQ (0) (1 / (x - ((x.floor : Int) : Rat))) vΦ wΦ, fun vΦ wΦ => FstQ (0) (1 / (x - ((x.floor : Int) : Rat))) vΦ wΦ, fun vΦ _ => vΦ = .int .i64 (0), fun vΦ wΦ => ∃ b, vΦ = .pointer (some ⟨b, 0, none⟩) ∧ W12.heap.size ≤ b ∧ Own wΦ b 28 [.bool false, .slice none 0 0, .bool false, .slice none 0 0]] iΦ (fun _ _ => True)) vΦ wΦ) [8] (by simp) ?_ ?_ ?_ ?_
    · intro i v w w' hi h hk
      rcases (show i = 0 ∨ i = 1 ∨ i = 2 ∨ i = 3 ∨ i = 4 ∨ i = 5 ∨ i = 6 ∨ i = 7 ∨ i = 8 by omega) with rfl | rfl | rfl | rfl | rfl | rfl | rfl | rfl | rfl
      all_goals simp only [gz, gs] at h ⊢
      all_goals first | exact h | exact RatRep.below h hk | exact TupQ.below h hk | exact FstQ.below h hk | exact h.elim fun b ⟨h1, h2, h3⟩ => ⟨b, h1, h2, h3.below hk⟩
    · intro i hi vs w3 hk3 hd
      have S3 := S.drew.below hk3
      have a0 := S3.c 6 0 rfl rfl
      have a1 := S3.c 6 1 rfl rfl
      have a2 := S3.c 6 2 rfl rfl
      have a3 := S3.c 6 3 rfl rfl
      have a4 := S3.c 2 0 rfl rfl
      have a5 := S3.c 2 1 rfl rfl
      have a6 := S3.c 2 2 rfl rfl
      have a7 := S3.c 2 3 rfl rfl
      have a8 := S3.c 1 0 rfl rfl
      have a9 := S3.c 1 1 rfl rfl
      have a10 := S3.c 1 2 rfl rfl
      have a11 := S3.c 1 3 rfl rfl
      match i, hi with
      | 0, _ =>
        refine step_yes [] rfl (by kernel_rfl) fun K hK => ?_; simp only [frD] at hK ⊢; refine ⟨by rfl, ?_⟩; go_simp
        exact hK _ _ ⟨Below.refl _ _, rfl, by simp⟩
      | 1, _ =>
        refine step_yes [] rfl (by kernel_rfl) fun K hK => ?_; simp only [frD] at hK ⊢; refine ⟨by rfl, ?_⟩; go_simp
        exact hK _ _ ⟨Below.refl _ _, rfl, by simp⟩
      | 2, _ =>
        refine step_yes [] rfl (by kernel_rfl) fun K hK => ?_; simp only [frD] at hK ⊢; refine ⟨by rfl, ?_⟩; go_simp
        exact hK _ _ ⟨Below.refl _ _, rfl, by simp⟩
      | 3, _ =>
        have e1 := hd 1 (cm (by kernel_rfl)); simp only [gz, gs] at e1; have e2 := hd 2 (cm (by kernel_rfl)); simp only [gz, gs] at e2
        refine step_yes [(1, some 38), (2, some 39)] rfl (by kernel_rfl) fun K hK => ?_; simp only [frD, e1, e2] at hK ⊢; refine ⟨by rfl, ?_⟩; go_simp
        refine ((fsub_num (S3.ri 9 rfl) ((S3.qi 2 rfl).num (by omega)))).mono ?_; rintro e w4 ⟨U, rfl, hr, hk4⟩; exact hK _ _ ⟨hk4, hr, by simp⟩
      | 4, _ =>
        have e0 := hd 0 (cm (by kernel_rfl)); simp only [gz] at e0; have h3 := hd 3 (cm (by kernel_rfl)); simp only [gz, gs] at h3
        refine step_yes [(0, some 37), (3, some 40)] rfl (by kernel_rfl) fun K hK => ?_; simp only [frD, e0] at hK ⊢; refine ⟨by rfl, ?_⟩; go_simp
        refine ((rcode_eq (fdivide_num ((S3.qi 1 rfl).num (by omega)) (h3.num (by omega))) (divC_pos g1) rfl)).mono ?_; rintro e w4 ⟨U, rfl, hr, hk4⟩; exact hK _ _ ⟨hk4, ⟨U, rfl, hr⟩, by simp⟩
      | 5, _ =>
        have h4 := hd 4 (cm (by kernel_rfl)); simp only [gz, gs] at h4; obtain ⟨Q9, q9, hQ9⟩ := h4
        refine step_yes [(4, some 41)] rfl (by kernel_rfl) fun K hK => ?_; simp only [frD, q9] at hK ⊢; refine ⟨by rfl, ?_⟩; go_simp
        exact hK _ _ ⟨Below.refl _ _, ⟨Q9, rfl, hQ9⟩, by simp⟩
      | 6, _ =>
        have h5 := hd 5 (cm (by kernel_rfl)); simp only [gz, gs] at h5; obtain ⟨Q9, q9, hQ9⟩ := h5
        refine step_yes [(5, some 36)] rfl (by kernel_rfl) fun K hK => ?_; simp only [frD, q9] at hK ⊢; refine ⟨by rfl, ?_⟩; go_simp
        exact hK _ _ ⟨Below.refl _ _, hQ9, by simp⟩
      | 7, _ =>
        have h5 := hd 5 (cm (by kernel_rfl)); simp only [gz, gs] at h5; obtain ⟨Q9, q9, hQ9⟩ := h5
        refine step_yes [(5, some 36)] rfl (by kernel_rfl) fun K hK => ?_; simp only [frD, q9] at hK ⊢; refine ⟨by rfl, ?_⟩; go_simp
        exact hK _ _ ⟨Below.refl _ _, rfl, by simp⟩
      | 8, _ =>
        refine step_yes [] rfl (by kernel_rfl) fun K hK => ?_; simp only [frD] at hK ⊢; refine ⟨by rfl, ?_⟩; go_simp
        exact hK _ _ ⟨(Below.refl _ _).alloc (Nat.le_refl _) _, ⟨_, rfl, hk3.size, Own.new w3 _ _⟩, fun _ => ⟨rfl, by simp⟩⟩
      | i + 9, hi => exact absurd hi (by omega)
    · intro vs w3 hk3 hd
      have h5 := hd 5 (cm (by kernel_rfl)); simp only [gz, gs] at h5; obtain ⟨Q9, q9, hQ9⟩ := h5
      refine pure_at (v := .int .i64 0) [(5, some 36)] rfl (by kernel_rfl) (by exact rfl) fun w4 K hK => ?_; simp only [frD, q9] at hK ⊢; refine ⟨by rfl, ?_⟩; go_simp; exact hK
    · intro vs W13 hk3 hΦ _
      simp only [List.drop_succ_cons, List.drop_zero]
      rw [fr_frD, show (List.range 9).map _ = [(0, some 37), (1, some 38), (2, some 39), (3, some 40), (4, some 41), (5, some 36), (6, some 42), (7, some 43), (8, some 10)] by kernel_rfl]
      have pb0 := hΦ 0 (by omega); simp only [gz] at pb0
      have pb1 := hΦ 1 (by omega); simp only [gz, gs] at pb1
      have pb2 := hΦ 2 (by omega); simp only [gz, gs] at pb2
      have pb3 := hΦ 3 (by omega); simp only [gz, gs] at pb3
      have pb4 := hΦ 4 (by omega); simp only [gz, gs] at pb4
      have pb5 := hΦ 5 (by omega); simp only [gz, gs] at pb5
      have pb6 := hΦ 6 (by omega); simp only [gz, gs] at pb6
      have pb7 := hΦ 7 (by omega); simp only [gz, gs] at pb7
      have pb8 := hΦ 8 (by omega); simp only [gz, gs] at pb8
      clear hΦ
      obtain ⟨bpb8, qA8, hlA8, hOA8⟩ := pb8
      simp only [frD, pb0, pb1, pb2, pb7, qA8]
      simp only [Act.put, List.setIfInBounds_toArray, List.set_cons_zero, List.set_cons_succ]
      clear pb0 pb1 pb2 pb7
      generalize vs 3 = Upb3 at pb3 ⊢
      generalize vs 4 = Upb4 at pb4 ⊢
      generalize vs 5 = Upb5 at pb5 ⊢
      generalize vs 6 = Upb6 at pb6 ⊢
      replace S := S.drew.box (S.drew.below hk3) hOA8 hlA8
      clear qA8 hlA8 hOA8
      clear pb3
      clear pb4
      clear pb5
      have hp := FstQ.rep pb6
      obtain ⟨b11, A11, n11, c11, d11, B11, m11, e11, rfl⟩ := hp.open_
      replace S := S.addQ hp
      clear hp pb6
      clear hk3
      have r7_0 := S.c 0 0 rfl rfl
      have f7_0 := S.f 0 0 rfl
      have r7_1 := S.c 0 1 rfl rfl
      have f7_1 := S.f 0 1 rfl
      have r7_2 := S.c 0 2 rfl rfl
      have f7_2 := S.f 0 2 rfl
      have r7_3 := S.c 0 3 rfl rfl
      have f7_3 := S.f 0 3 rfl
      go_upto_region 8 with fail
      replace S := (S.put4 0 rfl rfl rfl (x' := .bool b11) (y' := .slice A11 n11 c11) (z' := .bool d11) (u' := .slice B11 m11 e11))
      obtain ⟨W14, eW, S⟩ := S.pack
      rw [eW]
      clear eW
      clear r7_0 f7_0 r7_1 f7_1 r7_2 f7_2 r7_3 f7_3
      refine wp_region_late 7 10 (m := 9) rfl (by kernel_rfl) (fun iΦ vΦ wΦ => (List.getD [fun vΦ _ => vΦ = .agg #[.bool b9, .slice A9 n9 c9, .bool d9, .slice B9 m9 e9], fun vΦ _ => vΦ = .agg #[.bool b10, .slice A10 n10 c10, .bool d10, .slice B10 m10 e10], fun vΦ _ => vΦ = .agg #[.bool b11, .slice A11 n11 c11, .bool d11, .slice B11 m11 e11], fun vΦ wΦ => RatRep wΦ vΦ (simpR n (1 / (y - ((x.floor : Int) : Rat))) (1 / (x - ((x.floor : Int) : Rat)))), fun vΦ wΦ => TupQ (0) (1 / simpR n (1 / (y - ((x.floor : Int) : Rat))) (1 / (x - ((x.floor : Int) : Rat)))) vΦ wΦ, fun vΦ wΦ => TupQ (0) (1 / simpR n (1 / (y - ((x.floor : Int) : Rat))) (1 / (x - ((x.floor : Int) : Rat)))) vΦ wΦ, fun vΦ wΦ => FstQ (0) (1 / simpR n (1 / (y - ((x.floor : Int) : Rat))) (1 / (x - ((x.floor : Int) : Rat)))) vΦ wΦ, fun vΦ _ => vΦ = .int .i64 (0), fun vΦ wΦ => ∃ b, vΦ = .pointer (some ⟨b, 0, none⟩) ∧ W14.heap.size ≤ b ∧ Own wΦ b 28 [.bool false, .slice none 0 0, .bool false, .slice none 0 0]] iΦ (fun _ _ => True)) vΦ wΦ) [8] (by simp) ?_ ?_ ?_ ?_
      · intro i v w w' hi h hk
        rcases (show i = 0 ∨ i = 1 ∨ i = 2 ∨ i = 3 ∨ i = 4 ∨ i = 5 ∨ i = 6 ∨ i = 7 ∨ i = 8 by omega) with rfl | rfl | rfl | rfl | rfl | rfl | rfl | rfl | rfl
        all_goals simp only [gz, gs] at h ⊢
        all_goals first | exact h | exact RatRep.below h hk | exact TupQ.below h hk | exact FstQ.below h hk | exact h.elim fun b ⟨h1, h2, h3⟩ => ⟨b, h1, h2, h3.below hk⟩
      · intro i hi vs w3 hk3 hd
        have S3 := S.drew.below hk3
        have a0 := S3.c 2 0 rfl rfl
        have a1 := S3.c 2 1 rfl rfl
        have a2 := S3.c 2 2 rfl rfl
        have a3 := S3.c 2 3 rfl rfl
        have a4 := S3.c 1 0 rfl rfl
        have a5 := S3.c 1 1 rfl rfl
        have a6 := S3.c 1 2 rfl rfl
        have a7 := S3.c 1 3 rfl rfl
        have a8 := S3.c 0 0 rfl rfl
        have a9 := S3.c 0 1 rfl rfl
        have a10 := S3.c 0 2 rfl rfl
        have a11 := S3.c 0 3 rfl rfl
        match i, hi with
        | 0, _ =>
          refine step_yes [] rfl (by kernel_rfl) fun K hK => ?_; simp only [frD] at hK ⊢; refine ⟨by rfl, ?_⟩; go_simp
          exact hK _ _ ⟨Below.refl _ _, rfl, by simp⟩
        | 1, _ =>
          refine step_yes [] rfl (by kernel_rfl) fun K hK => ?_; simp only [frD] at hK ⊢; refine ⟨by rfl, ?_⟩; go_simp
          exact hK _ _ ⟨Below.refl _ _, rfl, by simp⟩
        | 2, _ =>
          refine step_yes [] rfl (by kernel_rfl) fun K hK => ?_; simp only [frD] at hK ⊢; refine ⟨by rfl, ?_⟩; go_simp
          exact hK _ _ ⟨Below.refl _ _, rfl, by simp⟩
        | 3, _ =>
          have e1 := hd 1 (cm (by kernel_rfl)); simp only [gz, gs] at e1; have e2 := hd 2 (cm (by kernel_rfl)); simp only [gz, gs] at e2
          refine step_yes [(1, some 46), (2, some 47)] rfl (by kernel_rfl) fun K hK => ?_; simp only [frD, e1, e2] at hK ⊢; refine ⟨by rfl, ?_⟩; go_simp
          refine ((IH _ _ _ ((S3.qi 1 rfl).num (by omega)) ((S3.qi 0 rfl).num (by omega)))).mono ?_; rintro e w4 ⟨U, rfl, hr, hk4⟩; exact hK _ _ ⟨hk4, hr, by simp⟩
        | 4, _ =>
          have e0 := hd 0 (cm (by kernel_rfl)); simp only [gz] at e0; have h3 := hd 3 (cm (by kernel_rfl)); simp only [gz, gs] at h3
          refine step_yes [(0, some 45), (3, some 48)] rfl (by kernel_rfl) fun K hK => ?_; simp only [frD, e0] at hK ⊢; refine ⟨by rfl, ?_⟩; go_simp
          refine ((rcode_eq (fdivide_num ((S3.qi 2 rfl).num (by omega)) (h3.num (by omega))) (divC_pos q1) rfl)).mono ?_; rintro e w4 ⟨U, rfl, hr, hk4⟩; exact hK _ _ ⟨hk4, ⟨U, rfl, hr⟩, by simp⟩
        | 5, _ =>
          have h4 := hd 4 (cm (by kernel_rfl)); simp only [gz, gs] at h4; obtain ⟨Q9, q9, hQ9⟩ := h4
          refine step_yes [(4, some 49)] rfl (by kernel_rfl) fun K hK => ?_; simp only [frD, q9] at hK ⊢; refine ⟨by rfl, ?_⟩; go_simp
          exact hK _ _ ⟨Below.refl _ _, ⟨Q9, rfl, hQ9⟩, by simp⟩
        | 6, _ =>
          have h5 := hd 5 (cm (by kernel_rfl)); simp only [gz, gs] at h5; obtain ⟨Q9, q9, hQ9⟩ := h5
          refine step_yes [(5, some 44)] rfl (by kernel_rfl) fun K hK => ?_; simp only [frD, q9] at hK ⊢; refine ⟨by rfl, ?_⟩; go_simp
          exact hK _ _ ⟨Below.refl _ _, hQ9, by simp⟩
        | 7, _ =>
          have h5 := hd 5 (cm (by kernel_rfl)); simp only [gz, gs] at h5; obtain ⟨Q9, q9, hQ9⟩ := h5
          refine step_yes [(5, some 44)] rfl (by kernel_rfl) fun K hK => ?_; simp only [frD, q9] at hK ⊢; refine ⟨by rfl, ?_⟩; go_simp
          exact hK _ _ ⟨Below.refl _ _, rfl, by simp⟩
        | 8, _ =>
          refine step_yes [] rfl (by kernel_rfl) fun K hK => ?_; simp only [frD] at hK ⊢; refine ⟨by rfl, ?_⟩; go_simp
          exact hK _ _ ⟨(Below.refl _ _).alloc (Nat.le_refl _) _, ⟨_, rfl, hk3.size, Own.new w3 _ _⟩, fun _ => ⟨rfl, by simp⟩⟩
        | i + 9, hi => exact absurd hi (by omega)
      · intro vs w3 hk3 hd
        have h5 := hd 5 (cm (by kernel_rfl)); simp only [gz, gs] at h5; obtain ⟨Q9, q9, hQ9⟩ := h5
        refine pure_at (v := .int .i64 0) [(5, some 44)] rfl (by kernel_rfl) (by exact rfl) fun w4 K hK => ?_; simp only [frD, q9] at hK ⊢; refine ⟨by rfl, ?_⟩; go_simp; exact hK
      · intro vs W15 hk3 hΦ _
        simp only [List.drop_succ_cons, List.drop_zero]
        rw [fr_frD, show (List.range 9).map _ = [(0, some 45), (1, some 46), (2, some 47), (3, some 48), (4, some 49), (5, some 44), (6, some 50), (7, some 51), (8, some 12)] by kernel_rfl]
        have pc0 := hΦ 0 (by omega); simp only [gz] at pc0
        have pc1 := hΦ 1 (by omega); simp only [gz, gs] at pc1
        have pc2 := hΦ 2 (by omega); simp only [gz, gs] at pc2
        have pc3 := hΦ 3 (by omega); simp only [gz, gs] at pc3
        have pc4 := hΦ 4 (by omega); simp only [gz, gs] at pc4
        have pc5 := hΦ 5 (by omega); simp only [gz, gs] at pc5
        have pc6 := hΦ 6 (by omega); simp only [gz, gs] at pc6
        have pc7 := hΦ 7 (by omega); simp only [gz, gs] at pc7
        have pc8 := hΦ 8 (by omega); simp only [gz, gs] at pc8
        clear hΦ
        obtain ⟨bpc8, qA8, hlA8, hOA8⟩ := pc8
        simp only [frD, pc0, pc1, pc2, pc7, qA8]
        simp only [Act.put, List.setIfInBounds_toArray, List.set_cons_zero, List.set_cons_succ]
        clear pc0 pc1 pc2 pc7
        generalize vs 3 = Upc3 at pc3 ⊢
        generalize vs 4 = Upc4 at pc4 ⊢
        generalize vs 5 = Upc5 at pc5 ⊢
        generalize vs 6 = Upc6 at pc6 ⊢
        replace S := S.drew.box (S.drew.below hk3) hOA8 hlA8
        clear qA8 hlA8 hOA8
        clear pc3
        clear pc4
        clear pc5
        have hp := FstQ.rep pc6
        obtain ⟨b12, A12, n12, c12, d12, B12, m12, e12, rfl⟩ := hp.open_
        replace S := S.addQ hp
        clear hp pc6
        clear hk3
        have r8_0 := S.c 0 0 rfl rfl
        have f8_0 := S.f 0 0 rfl
        have r8_1 := S.c 0 1 rfl rfl
        have f8_1 := S.f 0 1 rfl
        have r8_2 := S.c 0 2 rfl rfl
        have f8_2 := S.f 0 2 rfl
        have r8_3 := S.c 0 3 rfl rfl
        have f8_3 := S.f 0 3 rfl
        go_upto_region 9 with fail
        replace S := (S.put4 0 rfl rfl rfl (x' := .bool b12) (y' := .slice A12 n12 c12) (z' := .bool d12) (u' := .slice B12 m12 e12))
        obtain ⟨W16, eW, S⟩ := S.pack
        rw [eW]
        clear eW
        clear r8_0 f8_0 r8_1 f8_1 r8_2 f8_2 r8_3 f8_3
        have r4_0 := S.c 4 0 rfl rfl
        have r4_1 := S.c 4 1 rfl rfl
        have r4_2 := S.c 4 2 rfl rfl
        have r4_3 := S.c 4 3 rfl rfl
        have r8_0 := S.c 0 0 rfl rfl
        have r8_1 := S.c 0 1 rfl rfl
        have r8_2 := S.c 0 2 rfl rfl
        have r8_3 := S.c 0 3 rfl rfl
        go_wp2_with fail
        refine ((fadd_num ((S.qi 4 rfl).num (by omega)) ((S.qi 0 rfl).num (by omega)))).mono ?_
        rintro e W17 ⟨U17, rfl, hp, hk⟩
        obtain ⟨b13, A13, n13, c13, d13, B13, m13, e13, rfl⟩ := hp.open_
        replace S := (S.below hk).addQ hp
        clear hk hp
        clear r4_0 r4_1 r4_2 r4_3 r8_0 r8_1 r8_2 r8_3
        have r2_0 := S.c 6 0 rfl rfl
        have f2_0 := S.f 6 0 rfl
        have r2_1 := S.c 6 1 rfl rfl
        have f2_1 := S.f 6 1 rfl
        have r2_2 := S.c 6 2 rfl rfl
        have f2_2 := S.f 6 2 rfl
        have r2_3 := S.c 6 3 rfl rfl
        have f2_3 := S.f 6 3 rfl
        go_wp2
        replace S := (S.put4 6 rfl rfl rfl (x' := .bool b13) (y' := .slice A13 n13 c13) (z' := .bool d13) (u' := .slice B13 m13 e13))
        refine bodyPost_ret (v := .agg #[.bool b13, .slice A13 n13 c13, .bool d13, .slice B13 m13 e13]) (by simp [results, Tryz.results102, go_sem, S.c 6 0 rfl rfl, S.c 6 1 rfl rfl, S.c 6 2 rfl rfl, S.c 6 3 rfl rfl]) rfl ?_
        exact ⟨_, rfl, by rw [show simpR (n + 1) x y = ((x.floor : Int) : Rat) + 1 / simpR n (1 / (y - ((x.floor : Int) : Rat))) (1 / (x - ((x.floor : Int) : Rat))) from if_neg hc]; exact S.qi 0 rfl, S.k⟩
theorem fsimplest_num (n : Nat) : ∀ (w : World) (V1 V2 : Value) (x y : Rat), RatNum w V1 x → RatNum w V2 y → 0 < x → x ≤ y → x.den + y.den ≤ n → szR x ≤ 20000 → szR y ≤ 20000 →
    Calls Tryz.prog 102 #[V1, V2] w (RGives (simpR n x y) w) := by
  induction n with
  | zero => intro w V1 V2 x y _ _ _ _ h; exact absurd h (by have := x.den_pos; omega)
  | succ n ih =>
    intro w V1 V2 x y h1 h2 hx0 hxy hn zx zy
    by_cases hc : ((x.ceil : Int) : Rat) ≤ y
    · rw [show simpR (n + 1) x y = ((x.ceil : Int) : Rat) from if_pos hc]
      exact fsimplest_up h1 h2 hc zx
    · obtain ⟨g1, g2, g3, g4, g5, g6, g7⟩ := simp_step hx0 hxy hn hc rfl
      exact fsimplest_step h1 h2 hx0 hxy hn hc zx zy fun w V1 V2 a b => ih w V1 V2 _ _ a b g3 g4 g5 (by omega) (by omega)
end Go.Proofs.YtmochehkkadjnaaGreatDoor
