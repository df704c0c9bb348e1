/- The walks of the reference's places, power, part, Down, Up, Near. -/
import Derived.Test.YtmochehkkadjnaaGreatDoorGRest
import Derived.Test.YtmochehkkadjnaaGreatDoorMgStab
namespace Go.Proofs.YtmochehkkadjnaaGreatDoor
open Go.RowKit Go.Shelf

theorem rpower_two2 {w : World} {V : Value} {L P : Int} (h : IntRep w V 2) (h0 : 0 ≤ L) (h1 : L ≤ 512) (hP : (2 : Int) ^ L.toNat = P) : Calls Tryz.prog 153 #[V, .int .i64 L] w fun e w' => ∃ Q, e = .returned (.tuple #[Q, .int .i64 0]) ∧ IntRep w' Q P ∧ Keeps w w' := by
  subst hP
  have hl : (dig (2 : Int).natAbs).length ≤ 1 := dig_length_le (by decide)
  have := rpower_any _ _ V L w h.arg (by omega) (by omega) (by omega)
  rw [cnt_rep] at this
  have hc : powC 2 L = 0 := by
    unfold powC
    rw [if_neg (by omega), show dgs (2 : Int).natAbs = 1 from dgs_two, if_neg (by omega)]
  rwa [hc, show powZ 2 L = 2 ^ L.toNat from if_pos hc] at this
theorem lenI_pow2 {k P : Int} (h0 : 0 ≤ k) (h1 : k ≤ 512) (hP : (2 : Int) ^ k.toNat = P) : lenI P ≤ 18 := by
  rw [← hP]
  refine pow_lenI 2 k.toNat 18 (Nat.lt_of_le_of_lt (Nat.pow_le_pow_right (by decide) (show k.toNat ≤ 512 by omega)) ?_)
  decide +kernel
theorem lenI_int2 : lenI 2 ≤ 1 := dig_length_le (n := (2 : Int).natAbs) (k := 1) (by decide)
theorem szR_pow2 (x : Rat) {k P : Int} (h0 : 0 ≤ k) (h1 : k ≤ 512) (hP : (2 : Int) ^ k.toNat = P) : szR (x * (P : Rat)) ≤ szR x + 18 ∧ szR (P : Rat) ≤ 18 := by
  have h1 := lenI_pow2 h0 h1 hP
  have h2 := szR_mul x (P : Rat)
  have h3 := szR_int P
  omega
set_option maxRecDepth 100000 in
set_option maxHeartbeats 1000000 in
theorem gplaces_t {w : World} {k : Int} (h0 : 0 ≤ k) (h1 : k ≤ 512) : Calls Tryz.prog 97 #[.int .i64 k] w (fun e w' => e = .returned (.bool true) ∧ Keeps w w') := by
  have q2 : decide (k ≤ 512) = true := decide_eq_true h1
  have t1 : decide (0 ≤ k) = true := by exact decide_eq_true h0
  have S := (St.start w)
  go_enter Tryz.func97, Tryz.ntmps97
  go_wp2
  go_ret
  exact ⟨rfl, S.k⟩
set_option maxRecDepth 100000 in
set_option maxHeartbeats 1000000 in
theorem gplaces_n {w : World} {k : Int} (h0 : k < 0) : Calls Tryz.prog 97 #[.int .i64 k] w (fun e w' => e = .returned (.bool false) ∧ Keeps w w') := by
  have t1 : decide (0 ≤ k) = false := by exact decide_eq_false (by omega)
  have S := (St.start w)
  go_enter Tryz.func97, Tryz.ntmps97
  go_wp2
  go_ret
  exact ⟨rfl, S.k⟩
set_option maxRecDepth 100000 in
set_option maxHeartbeats 1000000 in
theorem gplaces_b {w : World} {k : Int} (h0 : 512 < k) : Calls Tryz.prog 97 #[.int .i64 k] w (fun e w' => e = .returned (.bool false) ∧ Keeps w w') := by
  have q2 : decide (k ≤ 512) = false := decide_eq_false (by omega)
  have t1 : decide (0 ≤ k) = true := by exact decide_eq_true (by omega)
  have S := (St.start w)
  go_enter Tryz.func97, Tryz.ntmps97
  go_wp2
  go_ret
  exact ⟨rfl, S.k⟩
theorem gplaces_bad {w : World} {k : Int} (h : k < 0 ∨ 512 < k) : Calls Tryz.prog 97 #[.int .i64 k] w fun e w' => e = .returned (.bool false) ∧ Keeps w w' := by
  by_cases h0 : k < 0
  · exact gplaces_n h0
  · exact gplaces_b (by omega)
set_option maxRecDepth 100000 in
set_option maxHeartbeats 1000000 in
theorem gpower_num {w : World} {k P : Int} (h0 : 0 ≤ k) (h1 : k ≤ 512) (hP : (2 : Int) ^ k.toNat = P) : Calls Tryz.prog 98 #[.int .i64 k] w (RGives (P : Rat) w) := by
  have S := (St.start w)
  go_enter Tryz.func98, Tryz.ntmps98
  go_wp2_with fail
  replace S := (S.alloc 28 [.bool false, .slice none 0 0, .bool false, .slice none 0 0])
  obtain ⟨W1, eW, S⟩ := S.pack
  rw [eW]
  clear eW
  refine ((whole_int 2 (by omega) (by omega))).mono ?_
  rintro e W2 ⟨U2, rfl, hp, hk⟩
  obtain ⟨b3, A3, n3, c3, rfl⟩ := hp.open3
  replace S := (S.below hk).addI hp
  clear hk hp
  go_wp2_with fail
  refine ((rpower_two2 (S.ii 0 rfl) h0 h1 hP)).mono ?_
  rintro e W3 ⟨U3, rfl, hp, hk⟩
  obtain ⟨b4, A4, n4, c4, rfl⟩ := hp.open3
  replace S := (S.below hk).addI hp
  clear hk hp
  go_upto_region 2 with fail
  replace S := (S.alloc 24 [.bool b4, .slice A4 n4 c4])
  obtain ⟨W4, eW, S⟩ := S.pack
  rw [eW]
  clear eW
  generalize W3.heap.size = P1 at *
  refine wp_region_steps (m := 2) rfl (by kernel_rfl) (fun iΦ vΦ wΦ => (List.getD [fun vΦ _ => vΦ = .agg #[.bool b4, .slice A4 n4 c4], fun vΦ wΦ => IntRep wΦ vΦ (1)] iΦ (fun _ _ => True)) vΦ wΦ) [] ?_ ?_ ?_
  · intro i v w w' hi h hk
    rcases (show i = 0 ∨ i = 1 by omega) with rfl | rfl
    all_goals simp only [gz, gs] at h ⊢
    all_goals first | exact h | exact IntRep.below h hk
  · intro i hi vs w3 hk3 hd
    have S3 := S.drew.below hk3
    have a0 := S3.c 0 0 rfl rfl
    have a1 := S3.c 0 1 rfl rfl
    match i, hi with
    | 0, _ =>
      refine step_yes [] rfl (by kernel_rfl) fun K hK => ?_; simp only [frD] at hK ⊢; refine ⟨by rfl, ?_⟩; go_simp
      exact hK _ _ ⟨Below.refl _ _, rfl, by simp⟩
    | 1, _ =>
      refine step_yes [] rfl (by kernel_rfl) fun K hK => ?_; simp only [frD] at hK ⊢; refine ⟨by rfl, ?_⟩; go_simp
      refine ((whole_int 1 (by omega) (by omega))).mono ?_; rintro e w4 ⟨U, rfl, hr, hk4⟩; exact hK _ _ ⟨hk4, hr, by simp⟩
    | i + 2, hi => exact absurd hi (by omega)
  · intro vs W5 hk3 hΦ _
    simp only [List.drop_succ_cons, List.drop_zero]
    rw [fr_frD, show (List.range 2).map _ = [(0, some 11), (1, some 12)] by kernel_rfl]
    have pa0 := hΦ 0 (by omega); simp only [gz] at pa0
    have pa1 := hΦ 1 (by omega); simp only [gz, gs] at pa1
    clear hΦ
    simp only [frD, pa0]
    simp only [Act.put, List.setIfInBounds_toArray, List.set_cons_zero, List.set_cons_succ]
    clear pa0
    generalize vs 1 = Upa1 at pa1 ⊢
    replace S := S.drew.below hk3
    obtain ⟨b5, A5, n5, c5, rfl⟩ := pa1.open3
    replace S := S.addI pa1
    clear pa1
    clear hk3
    replace S := S.addQ (RatRep.whole (S.ii 1 rfl) (S.ii 0 rfl))
    have r0_0 := S.c 1 0 rfl rfl
    have f0_0 := S.f 1 0 rfl
    have r0_1 := S.c 1 1 rfl rfl
    have f0_1 := S.f 1 1 rfl
    have r0_2 := S.c 1 2 rfl rfl
    have f0_2 := S.f 1 2 rfl
    have r0_3 := S.c 1 3 rfl rfl
    have f0_3 := S.f 1 3 rfl
    go_wp2
    replace S := (S.put4 1 rfl rfl rfl (x' := .bool b4) (y' := .slice A4 n4 c4) (z' := .bool b5) (u' := .slice A5 n5 c5))
    refine bodyPost_ret (v := .agg #[.bool b4, .slice A4 n4 c4, .bool b5, .slice A5 n5 c5]) (by simp [results, Tryz.results98, go_sem, S.c 1 0 rfl rfl, S.c 1 1 rfl rfl, S.c 1 2 rfl rfl, S.c 1 3 rfl rfl]) rfl ?_
    exact ⟨_, rfl, S.qi 0 rfl, S.k⟩
set_option maxRecDepth 100000 in
set_option maxHeartbeats 1000000 in
theorem gpart_num {w : World} {V1 : Value} {z k P : Int} (h1 : IntRep w V1 z) (hz : lenI z ≤ 90000) (h0 : 0 ≤ k) (hk1 : k ≤ 512) (hP : (2 : Int) ^ k.toNat = P) : Calls Tryz.prog 100 #[V1, .int .i64 k] w (RGives (Rat.divInt z P) w) := by
  obtain ⟨b3, A3, n3, c3, rfl⟩ := h1.open3
  have u0 := lenI_pow2 h0 hk1 hP
  have u1 := szR_int P
  have u2 := two_ne _ P hP
  have u3 := szR_num (Nat.le_refl (szR (P : Rat)))
  have S := ((St.start w).addI h1)
  clear h1
  go_enter Tryz.func100, Tryz.ntmps100
  go_upto_region 1 with fail
  replace S := ((S.alloc 24 [.bool b3, .slice A3 n3 c3]).alloc 28 [.bool false, .slice none 0 0, .bool false, .slice none 0 0])
  simp only [World.size_alloc] at S
  obtain ⟨W1, eW, S⟩ := S.pack
  rw [eW]
  clear eW
  refine wp_region_steps (m := 5) rfl (by kernel_rfl) (fun iΦ vΦ wΦ => (List.getD [fun vΦ _ => vΦ = .agg #[.bool b3, .slice A3 n3 c3], fun vΦ _ => vΦ = .int .i64 k, fun vΦ wΦ => RatRep wΦ vΦ ((P : Rat)), fun vΦ wΦ => IntRep wΦ vΦ (((P : Rat)).num), fun vΦ wΦ => RatRep wΦ vΦ (Rat.divInt z P)] iΦ (fun _ _ => True)) vΦ wΦ) [] ?_ ?_ ?_
  · intro i v w w' hi h hk
    rcases (show i = 0 ∨ i = 1 ∨ i = 2 ∨ i = 3 ∨ i = 4 by omega) with rfl | rfl | rfl | rfl | rfl
    all_goals simp only [gz, gs] at h ⊢
    all_goals first | exact h | exact IntRep.below h hk | exact RatRep.below h hk
  · intro i hi vs w3 hk3 hd
    have S3 := S.drew.below hk3
    have a0 := S3.c 1 0 rfl rfl
    have a1 := S3.c 1 1 rfl rfl
    match i, hi with
    | 0, _ =>
      refine step_yes [] rfl (by kernel_rfl) fun K hK => ?_; simp only [frD] at hK ⊢; refine ⟨by rfl, ?_⟩; go_simp
      exact hK _ _ ⟨Below.refl _ _, rfl, by simp⟩
    | 1, _ =>
      refine step_yes [] rfl (by kernel_rfl) fun K hK => ?_; simp only [frD] at hK ⊢; refine ⟨by rfl, ?_⟩; go_simp
      exact hK _ _ ⟨Below.refl _ _, rfl, by simp⟩
    | 2, _ =>
      have e1 := hd 1 (cm (by kernel_rfl)); simp only [gz, gs] at e1
      refine step_yes [(1, some 6)] rfl (by kernel_rfl) fun K hK => ?_; simp only [frD, e1] at hK ⊢; refine ⟨by rfl, ?_⟩; go_simp
      refine ((gpower_num h0 hk1 hP)).mono ?_; rintro e w4 ⟨U, rfl, hr, hk4⟩; exact hK _ _ ⟨hk4, hr, by simp⟩
    | 3, _ =>
      have h2 := hd 2 (cm (by kernel_rfl)); simp only [gz, gs] at h2; obtain ⟨b9, A9, n9, c9, d9, B9, m9, e9, q9⟩ := h2.open_
      refine step_yes [(2, some 7)] rfl (by kernel_rfl) fun K hK => ?_; simp only [frD, q9] at hK ⊢; refine ⟨by rfl, ?_⟩; go_simp
      rw [q9] at h2
      exact hK _ _ ⟨Below.refl _ _, h2.n, by simp⟩
    | 4, _ =>
      have e0 := hd 0 (cm (by kernel_rfl)); simp only [gz] at e0; have h2 := hd 2 (cm (by kernel_rfl)); simp only [gz, gs] at h2; have h3 := hd 3 (cm (by kernel_rfl)); simp only [gz, gs] at h3
      refine step_yes [(0, some 5), (2, some 7), (3, some 8)] rfl (by kernel_rfl) fun K hK => ?_; simp only [frD, e0] at hK ⊢; refine ⟨by rfl, ?_⟩; go_simp
      refine ((rgives_eq (greduced_num ((S3.ii 0 rfl).num4 (by omega)) (h3.num4 (by omega)) (by rw [Rat.num_intCast]; exact u2)) (by rw [Rat.num_intCast]))).mono ?_; rintro e w4 ⟨U, rfl, hr, hk4⟩; exact hK _ _ ⟨hk4, hr, by simp⟩
    | i + 5, hi => exact absurd hi (by omega)
  · intro vs W2 hk3 hΦ _
    simp only [List.drop_succ_cons, List.drop_zero]
    rw [fr_frD, show (List.range 5).map _ = [(0, some 5), (1, some 6), (2, some 7), (3, some 8), (4, some 9)] by kernel_rfl]
    have pa0 := hΦ 0 (by omega); simp only [gz] at pa0
    have pa1 := hΦ 1 (by omega); simp only [gz, gs] at pa1
    have pa2 := hΦ 2 (by omega); simp only [gz, gs] at pa2
    have pa3 := hΦ 3 (by omega); simp only [gz, gs] at pa3
    have pa4 := hΦ 4 (by omega); simp only [gz, gs] at pa4
    clear hΦ
    simp only [frD, pa0, pa1]
    simp only [Act.put, List.setIfInBounds_toArray, List.set_cons_zero, List.set_cons_succ]
    clear pa0 pa1
    generalize vs 2 = Upa2 at pa2 ⊢
    generalize vs 3 = Upa3 at pa3 ⊢
    generalize vs 4 = Upa4 at pa4 ⊢
    replace S := S.drew.below hk3
    clear pa2
    clear pa3
    obtain ⟨b4, A4, n4, c4, d4, B4, m4, e4, rfl⟩ := pa4.open_
    replace S := S.addQ pa4
    clear pa4
    clear hk3
    have r1_0 := S.c 0 0 rfl rfl
    have f1_0 := S.f 0 0 rfl
    have r1_1 := S.c 0 1 rfl rfl
    have f1_1 := S.f 0 1 rfl
    have r1_2 := S.c 0 2 rfl rfl
    have f1_2 := S.f 0 2 rfl
    have r1_3 := S.c 0 3 rfl rfl
    have f1_3 := S.f 0 3 rfl
    go_wp2
    replace S := (S.put4 0 rfl rfl rfl (x' := .bool b4) (y' := .slice A4 n4 c4) (z' := .bool d4) (u' := .slice B4 m4 e4))
    refine bodyPost_ret (v := .agg #[.bool b4, .slice A4 n4 c4, .bool d4, .slice B4 m4 e4]) (by simp [results, Tryz.results100, go_sem, S.c 0 0 rfl rfl, S.c 0 1 rfl rfl, S.c 0 2 rfl rfl, S.c 0 3 rfl rfl]) rfl ?_
    exact ⟨_, rfl, S.qi 0 rfl, S.k⟩
set_option maxRecDepth 100000 in
set_option maxHeartbeats 1000000 in
theorem gdown_bad {w : World} {V1 : Value} {x : Rat} {k : Int} (h1 : RatNum w V1 x) (hk0 : k < 0 ∨ 512 < k) : Calls Tryz.prog 53 #[V1, .int .i64 k] w (RCode 2 0 w) := by
  obtain ⟨b3, A3, n3, c3, d3, B3, m3, e3, rfl⟩ := h1.open_
  have z0 := h1.sz
  have S := ((St.start w).addR h1)
  clear h1
  go_enter Tryz.func53, Tryz.ntmps53
  go_wp2_with fail
  replace S := ((S.alloc 28 [.bool b3, .slice A3 n3 c3, .bool d3, .slice B3 m3 e3]).alloc 28 [.bool false, .slice none 0 0, .bool false, .slice none 0 0])
  simp only [World.size_alloc] at S
  obtain ⟨W1, eW, S⟩ := S.pack
  rw [eW]
  clear eW
  refine ((gplaces_bad hk0)).mono ?_
  rintro e W2 ⟨rfl, hk⟩
  replace S := S.below hk
  clear hk
  have r1_0 := S.c 0 0 rfl rfl
  have f1_0 := S.f 0 0 rfl
  have r1_1 := S.c 0 1 rfl rfl
  have f1_1 := S.f 0 1 rfl
  have r1_2 := S.c 0 2 rfl rfl
  have f1_2 := S.f 0 2 rfl
  have r1_3 := S.c 0 3 rfl rfl
  have f1_3 := S.f 0 3 rfl
  go_wp2
  replace S := (S.put4 0 rfl rfl rfl (x' := .bool false) (y' := .slice none 0 0) (z' := .bool false) (u' := .slice none 0 0))
  refine bodyPost_ret (v := .tuple #[.agg #[.bool false, .slice none 0 0, .bool false, .slice none 0 0], .int .i64 2]) (by simp [results, Tryz.results53, go_sem, S.c 0 0 rfl rfl, S.c 0 1 rfl rfl, S.c 0 2 rfl rfl, S.c 0 3 rfl rfl]) rfl ?_
  exact ⟨_, rfl, by rw [if_neg (by decide)]; rfl, S.k⟩
set_option maxRecDepth 100000 in
set_option maxHeartbeats 1000000 in
theorem gdown_ok {w : World} {V1 : Value} {x : Rat} {k P : Int} (h1 : RatNum w V1 x) (h0 : 0 ≤ k) (hk1 : k ≤ 512) (hP : (2 : Int) ^ k.toNat = P) (zx : szR x ≤ 20000) : Calls Tryz.prog 53 #[V1, .int .i64 k] w (RCode 0 (Rat.divInt (x * (P : Rat)).floor P) w) := by
  obtain ⟨b3, A3, n3, c3, d3, B3, m3, e3, rfl⟩ := h1.open_
  have z0 := h1.sz
  have u0 := szR_scaled x _ P hP (by omega)
  have u1 := szR_int P
  have u2 := lenI_pow2 h0 hk1 hP
  have u3 := len_floor (x * (P : Rat))
  have y0 := szR_mul x ((P : Rat))
  have y1 := lenI_floor (x * ((P : Rat)))
  have S := ((St.start w).addR h1)
  clear h1
  go_enter Tryz.func53, Tryz.ntmps53
  go_wp2_with fail
  replace S := ((S.alloc 28 [.bool b3, .slice A3 n3 c3, .bool d3, .slice B3 m3 e3]).alloc 28 [.bool false, .slice none 0 0, .bool false, .slice none 0 0])
  simp only [World.size_alloc] at S
  obtain ⟨W1, eW, S⟩ := S.pack
  rw [eW]
  clear eW
  refine ((gplaces_t h0 hk1)).mono ?_
  rintro e W2 ⟨rfl, hk⟩
  replace S := S.below hk
  clear hk
  go_upto_region 3 with fail
  refine wp_region_steps (m := 7) rfl (by kernel_rfl) (fun iΦ vΦ wΦ => (List.getD [fun vΦ _ => vΦ = .agg #[.bool b3, .slice A3 n3 c3, .bool d3, .slice B3 m3 e3], fun vΦ _ => vΦ = .int .i64 k, fun vΦ wΦ => RatRep wΦ vΦ ((P : Rat)), fun vΦ wΦ => RatRep wΦ vΦ (x * ((P : Rat))), fun vΦ wΦ => IntRep wΦ vΦ ((x * ((P : Rat))).floor), fun vΦ _ => vΦ = .int .i64 k, fun vΦ wΦ => RatRep wΦ vΦ (Rat.divInt (x * (P : Rat)).floor P)] iΦ (fun _ _ => True)) vΦ wΦ) [] ?_ ?_ ?_
  · intro i v w w' hi h hk
    rcases (show i = 0 ∨ i = 1 ∨ i = 2 ∨ i = 3 ∨ i = 4 ∨ i = 5 ∨ i = 6 by omega) with rfl | rfl | rfl | rfl | rfl | rfl | rfl
    all_goals simp only [gz, gs] at h ⊢
    all_goals first | exact h | exact IntRep.below h hk | exact RatRep.below h hk
  · intro i hi vs w3 hk3 hd
    have S3 := S.drew.below hk3
    have a0 := S3.c 1 0 rfl rfl
    have a1 := S3.c 1 1 rfl rfl
    have a2 := S3.c 1 2 rfl rfl
    have a3 := S3.c 1 3 rfl rfl
    match i, hi with
    | 0, _ =>
      refine step_yes [] rfl (by kernel_rfl) fun K hK => ?_; simp only [frD] at hK ⊢; refine ⟨by rfl, ?_⟩; go_simp
      exact hK _ _ ⟨Below.refl _ _, rfl, by simp⟩
    | 1, _ =>
      refine step_yes [] rfl (by kernel_rfl) fun K hK => ?_; simp only [frD] at hK ⊢; refine ⟨by rfl, ?_⟩; go_simp
      exact hK _ _ ⟨Below.refl _ _, rfl, by simp⟩
    | 2, _ =>
      have e1 := hd 1 (cm (by kernel_rfl)); simp only [gz, gs] at e1
      refine step_yes [(1, some 11)] rfl (by kernel_rfl) fun K hK => ?_; simp only [frD, e1] at hK ⊢; refine ⟨by rfl, ?_⟩; go_simp
      refine ((gpower_num h0 hk1 hP)).mono ?_; rintro e w4 ⟨U, rfl, hr, hk4⟩; exact hK _ _ ⟨hk4, hr, by simp⟩
    | 3, _ =>
      have e0 := hd 0 (cm (by kernel_rfl)); simp only [gz] at e0; have h2 := hd 2 (cm (by kernel_rfl)); simp only [gz, gs] at h2
      refine step_yes [(0, some 10), (2, some 12)] rfl (by kernel_rfl) fun K hK => ?_; simp only [frD, e0] at hK ⊢; refine ⟨by rfl, ?_⟩; go_simp
      refine ((gmul_num (S3.ri 0 rfl) (h2.num (by omega)))).mono ?_; rintro e w4 ⟨U, rfl, hr, hk4⟩; exact hK _ _ ⟨hk4, hr, by simp⟩
    | 4, _ =>
      have h3 := hd 3 (cm (by kernel_rfl)); simp only [gz, gs] at h3
      refine step_yes [(3, some 13)] rfl (by kernel_rfl) fun K hK => ?_; simp only [frD] at hK ⊢; refine ⟨by rfl, ?_⟩; go_simp
      refine ((gfloor_num (h3.num (by omega)))).mono ?_; rintro e w4 ⟨U, rfl, hr, hk4⟩; exact hK _ _ ⟨hk4, hr, by simp⟩
    | 5, _ =>
      refine step_yes [] rfl (by kernel_rfl) fun K hK => ?_; simp only [frD] at hK ⊢; refine ⟨by rfl, ?_⟩; go_simp
      exact hK _ _ ⟨Below.refl _ _, rfl, by simp⟩
    | 6, _ =>
      have h4 := hd 4 (cm (by kernel_rfl)); simp only [gz, gs] at h4; have e5 := hd 5 (cm (by kernel_rfl)); simp only [gz, gs] at e5
      refine step_yes [(4, some 14), (5, some 15)] rfl (by kernel_rfl) fun K hK => ?_; simp only [frD, e5] at hK ⊢; refine ⟨by rfl, ?_⟩; go_simp
      refine ((gpart_num h4 (by omega) h0 hk1 hP)).mono ?_; rintro e w4 ⟨U, rfl, hr, hk4⟩; exact hK _ _ ⟨hk4, hr, by simp⟩
    | i + 7, hi => exact absurd hi (by omega)
  · intro vs W3 hk3 hΦ _
    simp only [List.drop_succ_cons, List.drop_zero]
    rw [fr_frD, show (List.range 7).map _ = [(0, some 10), (1, some 11), (2, some 12), (3, some 13), (4, some 14), (5, some 15), (6, some 16)] by kernel_rfl]
    have pa0 := hΦ 0 (by omega); simp only [gz] at pa0
    have pa1 := hΦ 1 (by omega); simp only [gz, gs] at pa1
    have pa2 := hΦ 2 (by omega); simp only [gz, gs] at pa2
    have pa3 := hΦ 3 (by omega); simp only [gz, gs] at pa3
    have pa4 := hΦ 4 (by omega); simp only [gz, gs] at pa4
    have pa5 := hΦ 5 (by omega); simp only [gz, gs] at pa5
    have pa6 := hΦ 6 (by omega); simp only [gz, gs] at pa6
    clear hΦ
    simp only [frD, pa0, pa1, pa5]
    simp only [Act.put, List.setIfInBounds_toArray, List.set_cons_zero, List.set_cons_succ]
    clear pa0 pa1 pa5
    generalize vs 2 = Upa2 at pa2 ⊢
    generalize vs 3 = Upa3 at pa3 ⊢
    generalize vs 4 = Upa4 at pa4 ⊢
    generalize vs 6 = Upa6 at pa6 ⊢
    replace S := S.drew.below hk3
    clear pa2
    clear pa3
    clear pa4
    obtain ⟨b4, A4, n4, c4, d4, B4, m4, e4, rfl⟩ := pa6.open_
    replace S := S.addQ pa6
    clear pa6
    clear hk3
    have r1_0 := S.c 0 0 rfl rfl
    have f1_0 := S.f 0 0 rfl
    have r1_1 := S.c 0 1 rfl rfl
    have f1_1 := S.f 0 1 rfl
    have r1_2 := S.c 0 2 rfl rfl
    have f1_2 := S.f 0 2 rfl
    have r1_3 := S.c 0 3 rfl rfl
    have f1_3 := S.f 0 3 rfl
    go_wp2
    replace S := (S.put4 0 rfl rfl rfl (x' := .bool b4) (y' := .slice A4 n4 c4) (z' := .bool d4) (u' := .slice B4 m4 e4))
    refine bodyPost_ret (v := .tuple #[.agg #[.bool b4, .slice A4 n4 c4, .bool d4, .slice B4 m4 e4], .int .i64 0]) (by simp [results, Tryz.results53, go_sem, S.c 0 0 rfl rfl, S.c 0 1 rfl rfl, S.c 0 2 rfl rfl, S.c 0 3 rfl rfl]) rfl ?_
    exact ⟨_, rfl, by rw [if_pos rfl]; exact S.qi 0 rfl, S.k⟩
set_option maxRecDepth 100000 in
set_option maxHeartbeats 1000000 in
theorem gup_bad {w : World} {V1 : Value} {x : Rat} {k : Int} (h1 : RatNum w V1 x) (hk0 : k < 0 ∨ 512 < k) : Calls Tryz.prog 55 #[V1, .int .i64 k] w (RCode 2 0 w) := by
  obtain ⟨b3, A3, n3, c3, d3, B3, m3, e3, rfl⟩ := h1.open_
  have z0 := h1.sz
  have S := ((St.start w).addR h1)
  clear h1
  go_enter Tryz.func55, Tryz.ntmps55
  go_wp2_with fail
  replace S := ((S.alloc 28 [.bool b3, .slice A3 n3 c3, .bool d3, .slice B3 m3 e3]).alloc 28 [.bool false, .slice none 0 0, .bool false, .slice none 0 0])
  simp only [World.size_alloc] at S
  obtain ⟨W1, eW, S⟩ := S.pack
  rw [eW]
  clear eW
  refine ((gplaces_bad hk0)).mono ?_
  rintro e W2 ⟨rfl, hk⟩
  replace S := S.below hk
  clear hk
  have r1_0 := S.c 0 0 rfl rfl
  have f1_0 := S.f 0 0 rfl
  have r1_1 := S.c 0 1 rfl rfl
  have f1_1 := S.f 0 1 rfl
  have r1_2 := S.c 0 2 rfl rfl
  have f1_2 := S.f 0 2 rfl
  have r1_3 := S.c 0 3 rfl rfl
  have f1_3 := S.f 0 3 rfl
  go_wp2
  replace S := (S.put4 0 rfl rfl rfl (x' := .bool false) (y' := .slice none 0 0) (z' := .bool false) (u' := .slice none 0 0))
  refine bodyPost_ret (v := .tuple #[.agg #[.bool false, .slice none 0 0, .bool false, .slice none 0 0], .int .i64 2]) (by simp [results, Tryz.results55, go_sem, S.c 0 0 rfl rfl, S.c 0 1 rfl rfl, S.c 0 2 rfl rfl, S.c 0 3 rfl rfl]) rfl ?_
  exact ⟨_, rfl, by rw [if_neg (by decide)]; rfl, S.k⟩
set_option maxRecDepth 100000 in
set_option maxHeartbeats 1000000 in
theorem gup_ok {w : World} {V1 : Value} {x : Rat} {k P : Int} (h1 : RatNum w V1 x) (h0 : 0 ≤ k) (hk1 : k ≤ 512) (hP : (2 : Int) ^ k.toNat = P) (zx : szR x ≤ 20000) : Calls Tryz.prog 55 #[V1, .int .i64 k] w (RCode 0 (Rat.divInt (x * (P : Rat)).ceil P) w) := by
  obtain ⟨b3, A3, n3, c3, d3, B3, m3, e3, rfl⟩ := h1.open_
  have z0 := h1.sz
  have u0 := szR_scaled x _ P hP (by omega)
  have u1 := szR_int P
  have u2 := lenI_pow2 h0 hk1 hP
  have u3 := len_ceil (x * (P : Rat))
  have y0 := szR_mul x ((P : Rat))
  have y1 := lenI_ceil (x * ((P : Rat)))
  have S := ((St.start w).addR h1)
  clear h1
  go_enter Tryz.func55, Tryz.ntmps55
  go_wp2_with fail
  replace S := ((S.alloc 28 [.bool b3, .slice A3 n3 c3, .bool d3, .slice B3 m3 e3]).alloc 28 [.bool false, .slice none 0 0, .bool false, .slice none 0 0])
  simp only [World.size_alloc] at S
  obtain ⟨W1, eW, S⟩ := S.pack
  rw [eW]
  clear eW
  refine ((gplaces_t h0 hk1)).mono ?_
  rintro e W2 ⟨rfl, hk⟩
  replace S := S.below hk
  clear hk
  go_upto_region 3 with fail
  refine wp_region_steps (m := 7) rfl (by kernel_rfl) (fun iΦ vΦ wΦ => (List.getD [fun vΦ _ => vΦ = .agg #[.bool b3, .slice A3 n3 c3, .bool d3, .slice B3 m3 e3], fun vΦ _ => vΦ = .int .i64 k, fun vΦ wΦ => RatRep wΦ vΦ ((P : Rat)), fun vΦ wΦ => RatRep wΦ vΦ (x * ((P : Rat))), fun vΦ wΦ => IntRep wΦ vΦ ((x * ((P : Rat))).ceil), fun vΦ _ => vΦ = .int .i64 k, fun vΦ wΦ => RatRep wΦ vΦ (Rat.divInt (x * (P : Rat)).ceil P)] iΦ (fun _ _ => True)) vΦ wΦ) [] ?_ ?_ ?_
  · intro i v w w' hi h hk
    rcases (show i = 0 ∨ i = 1 ∨ i = 2 ∨ i = 3 ∨ i = 4 ∨ i = 5 ∨ i = 6 by omega) with rfl | rfl | rfl | rfl | rfl | rfl | rfl
    all_goals simp only [gz, gs] at h ⊢
    all_goals first | exact h | exact IntRep.below h hk | exact RatRep.below h hk
  · intro i hi vs w3 hk3 hd
    have S3 := S.drew.below hk3
    have a0 := S3.c 1 0 rfl rfl
    have a1 := S3.c 1 1 rfl rfl
    have a2 := S3.c 1 2 rfl rfl
    have a3 := S3.c 1 3 rfl rfl
    match i, hi with
    | 0, _ =>
      refine step_yes [] rfl (by kernel_rfl) fun K hK => ?_; simp only [frD] at hK ⊢; refine ⟨by rfl, ?_⟩; go_simp
      exact hK _ _ ⟨Below.refl _ _, rfl, by simp⟩
    | 1, _ =>
      refine step_yes [] rfl (by kernel_rfl) fun K hK => ?_; simp only [frD] at hK ⊢; refine ⟨by rfl, ?_⟩; go_simp
      exact hK _ _ ⟨Below.refl _ _, rfl, by simp⟩
    | 2, _ =>
      have e1 := hd 1 (cm (by kernel_rfl)); simp only [gz, gs] at e1
      refine step_yes [(1, some 11)] rfl (by kernel_rfl) fun K hK => ?_; simp only [frD, e1] at hK ⊢; refine ⟨by rfl, ?_⟩; go_simp
      refine ((gpower_num h0 hk1 hP)).mono ?_; rintro e w4 ⟨U, rfl, hr, hk4⟩; exact hK _ _ ⟨hk4, hr, by simp⟩
    | 3, _ =>
      have e0 := hd 0 (cm (by kernel_rfl)); simp only [gz] at e0; have h2 := hd 2 (cm (by kernel_rfl)); simp only [gz, gs] at h2
      refine step_yes [(0, some 10), (2, some 12)] rfl (by kernel_rfl) fun K hK => ?_; simp only [frD, e0] at hK ⊢; refine ⟨by rfl, ?_⟩; go_simp
      refine ((gmul_num (S3.ri 0 rfl) (h2.num (by omega)))).mono ?_; rintro e w4 ⟨U, rfl, hr, hk4⟩; exact hK _ _ ⟨hk4, hr, by simp⟩
    | 4, _ =>
      have h3 := hd 3 (cm (by kernel_rfl)); simp only [gz, gs] at h3
      refine step_yes [(3, some 13)] rfl (by kernel_rfl) fun K hK => ?_; simp only [frD] at hK ⊢; refine ⟨by rfl, ?_⟩; go_simp
      refine ((gceil_num (h3.num (by omega)))).mono ?_; rintro e w4 ⟨U, rfl, hr, hk4⟩; exact hK _ _ ⟨hk4, hr, by simp⟩
    | 5, _ =>
      refine step_yes [] rfl (by kernel_rfl) fun K hK => ?_; simp only [frD] at hK ⊢; refine ⟨by rfl, ?_⟩; go_simp
      exact hK _ _ ⟨Below.refl _ _, rfl, by simp⟩
    | 6, _ =>
      have h4 := hd 4 (cm (by kernel_rfl)); simp only [gz, gs] at h4; have e5 := hd 5 (cm (by kernel_rfl)); simp only [gz, gs] at e5
      refine step_yes [(4, some 14), (5, some 15)] rfl (by kernel_rfl) fun K hK => ?_; simp only [frD, e5] at hK ⊢; refine ⟨by rfl, ?_⟩; go_simp
      refine ((gpart_num h4 (by omega) h0 hk1 hP)).mono ?_; rintro e w4 ⟨U, rfl, hr, hk4⟩; exact hK _ _ ⟨hk4, hr, by simp⟩
    | i + 7, hi => exact absurd hi (by omega)
  · intro vs W3 hk3 hΦ _
    simp only [List.drop_succ_cons, List.drop_zero]
    rw [fr_frD, show (List.range 7).map _ = [(0, some 10), (1, some 11), (2, some 12), (3, some 13), (4, some 14), (5, some 15), (6, some 16)] by kernel_rfl]
    have pa0 := hΦ 0 (by omega); simp only [gz] at pa0
    have pa1 := hΦ 1 (by omega); simp only [gz, gs] at pa1
    have pa2 := hΦ 2 (by omega); simp only [gz, gs] at pa2
    have pa3 := hΦ 3 (by omega); simp only [gz, gs] at pa3
    have pa4 := hΦ 4 (by omega); simp only [gz, gs] at pa4
    have pa5 := hΦ 5 (by omega); simp only [gz, gs] at pa5
    have pa6 := hΦ 6 (by omega); simp only [gz, gs] at pa6
    clear hΦ
    simp only [frD, pa0, pa1, pa5]
    simp only [Act.put, List.setIfInBounds_toArray, List.set_cons_zero, List.set_cons_succ]
    clear pa0 pa1 pa5
    generalize vs 2 = Upa2 at pa2 ⊢
    generalize vs 3 = Upa3 at pa3 ⊢
    generalize vs 4 = Upa4 at pa4 ⊢
    generalize vs 6 = Upa6 at pa6 ⊢
    replace S := S.drew.below hk3
    clear pa2
    clear pa3
    clear pa4
    obtain ⟨b4, A4, n4, c4, d4, B4, m4, e4, rfl⟩ := pa6.open_
    replace S := S.addQ pa6
    clear pa6
    clear hk3
    have r1_0 := S.c 0 0 rfl rfl
    have f1_0 := S.f 0 0 rfl
    have r1_1 := S.c 0 1 rfl rfl
    have f1_1 := S.f 0 1 rfl
    have r1_2 := S.c 0 2 rfl rfl
    have f1_2 := S.f 0 2 rfl
    have r1_3 := S.c 0 3 rfl rfl
    have f1_3 := S.f 0 3 rfl
    go_wp2
    replace S := (S.put4 0 rfl rfl rfl (x' := .bool b4) (y' := .slice A4 n4 c4) (z' := .bool d4) (u' := .slice B4 m4 e4))
    refine bodyPost_ret (v := .tuple #[.agg #[.bool b4, .slice A4 n4 c4, .bool d4, .slice B4 m4 e4], .int .i64 0]) (by simp [results, Tryz.results55, go_sem, S.c 0 0 rfl rfl, S.c 0 1 rfl rfl, S.c 0 2 rfl rfl, S.c 0 3 rfl rfl]) rfl ?_
    exact ⟨_, rfl, by rw [if_pos rfl]; exact S.qi 0 rfl, S.k⟩
set_option maxRecDepth 100000 in
set_option maxHeartbeats 1000000 in
theorem gnear_bad {w : World} {V1 : Value} {x : Rat} {k : Int} (h1 : RatNum w V1 x) (hk0 : k < 0 ∨ 512 < k) : Calls Tryz.prog 57 #[V1, .int .i64 k] w (RCode 2 0 w) := by
  obtain ⟨b3, A3, n3, c3, d3, B3, m3, e3, rfl⟩ := h1.open_
  have z0 := h1.sz
  have S := ((St.start w).addR h1)
  clear h1
  go_enter Tryz.func57, Tryz.ntmps57
  go_wp2_with fail
  replace S := ((S.alloc 28 [.bool b3, .slice A3 n3 c3, .bool d3, .slice B3 m3 e3]).alloc 28 [.bool false, .slice none 0 0, .bool false, .slice none 0 0])
  simp only [World.size_alloc] at S
  obtain ⟨W1, eW, S⟩ := S.pack
  rw [eW]
  clear eW
  refine ((gplaces_bad hk0)).mono ?_
  rintro e W2 ⟨rfl, hk⟩
  replace S := S.below hk
  clear hk
  have r1_0 := S.c 0 0 rfl rfl
  have f1_0 := S.f 0 0 rfl
  have r1_1 := S.c 0 1 rfl rfl
  have f1_1 := S.f 0 1 rfl
  have r1_2 := S.c 0 2 rfl rfl
  have f1_2 := S.f 0 2 rfl
  have r1_3 := S.c 0 3 rfl rfl
  have f1_3 := S.f 0 3 rfl
  go_wp2
  replace S := (S.put4 0 rfl rfl rfl (x' := .bool false) (y' := .slice none 0 0) (z' := .bool false) (u' := .slice none 0 0))
  refine bodyPost_ret (v := .tuple #[.agg #[.bool false, .slice none 0 0, .bool false, .slice none 0 0], .int .i64 2]) (by simp [results, Tryz.results57, go_sem, S.c 0 0 rfl rfl, S.c 0 1 rfl rfl, S.c 0 2 rfl rfl, S.c 0 3 rfl rfl]) rfl ?_
  exact ⟨_, rfl, by rw [if_neg (by decide)]; rfl, S.k⟩
set_option maxRecDepth 100000 in
set_option maxHeartbeats 1000000 in
theorem gnear_ok {w : World} {V1 : Value} {x : Rat} {k P : Int} (h1 : RatNum w V1 x) (h0 : 0 ≤ k) (hk1 : k ≤ 512) (hP : (2 : Int) ^ k.toNat = P) (zx : szR x ≤ 20000) : Calls Tryz.prog 57 #[V1, .int .i64 k] w (RCode 0 (Rat.divInt (nearR (x * (P : Rat))) P) w) := by
  obtain ⟨b3, A3, n3, c3, d3, B3, m3, e3, rfl⟩ := h1.open_
  have z0 := h1.sz
  have u0 := szR_scaled x _ P hP (by omega)
  have u1 := szR_int P
  have u2 := lenI_pow2 h0 hk1 hP
  have u3 := len_near (x * (P : Rat))
  have u6 := lenI_one
  have u7 := lenI_int2
  have u4 := szR_half
  have u5 := szR_add (x * (P : Rat)) halfR
  have y0 := szR_mul x ((P : Rat))
  have y1 := szR_add (x * ((P : Rat))) halfR
  have y2 := lenI_floor ((x * ((P : Rat))) + halfR)
  have S := ((St.start w).addR h1)
  clear h1
  go_enter Tryz.func57, Tryz.ntmps57
  go_wp2_with fail
  replace S := ((S.alloc 28 [.bool b3, .slice A3 n3 c3, .bool d3, .slice B3 m3 e3]).alloc 28 [.bool false, .slice none 0 0, .bool false, .slice none 0 0])
  simp only [World.size_alloc] at S
  obtain ⟨W1, eW, S⟩ := S.pack
  rw [eW]
  clear eW
  refine ((gplaces_t h0 hk1)).mono ?_
  rintro e W2 ⟨rfl, hk⟩
  replace S := S.below hk
  clear hk
  go_wp2_with fail
  refine ((whole_int 1 (by omega) (by omega))).mono ?_
  rintro e W3 ⟨U3, rfl, hp, hk⟩
  obtain ⟨b4, A4, n4, c4, rfl⟩ := hp.open3
  replace S := (S.below hk).addI hp
  clear hk hp
  go_wp2_with fail
  refine ((whole_int 2 (by omega) (by omega))).mono ?_
  rintro e W4 ⟨U4, rfl, hp, hk⟩
  obtain ⟨b5, A5, n5, c5, rfl⟩ := hp.open3
  replace S := (S.below hk).addI hp
  clear hk hp
  go_wp2_with fail
  refine ((rgives_eq (greduced_num ((S.ii 1 rfl).num4 (by omega)) ((S.ii 0 rfl).num4 (by omega)) (by omega)) (show Rat.divInt 1 2 = halfR from rfl))).mono ?_
  rintro e W5 ⟨U5, rfl, hp, hk⟩
  obtain ⟨b6, A6, n6, c6, d6, B6, m6, e6, rfl⟩ := hp.open_
  replace S := (S.below hk).addQ hp
  clear hk hp
  go_upto_region 4 with fail
  replace S := (S.alloc 28 [.bool b6, .slice A6 n6 c6, .bool d6, .slice B6 m6 e6])
  obtain ⟨W6, eW, S⟩ := S.pack
  rw [eW]
  clear eW
  generalize W5.heap.size = P1 at *
  refine wp_region_steps (m := 9) rfl (by kernel_rfl) (fun iΦ vΦ wΦ => (List.getD [fun vΦ _ => vΦ = .agg #[.bool b3, .slice A3 n3 c3, .bool d3, .slice B3 m3 e3], fun vΦ _ => vΦ = .int .i64 k, fun vΦ wΦ => RatRep wΦ vΦ ((P : Rat)), fun vΦ wΦ => RatRep wΦ vΦ (x * ((P : Rat))), fun vΦ _ => vΦ = .agg #[.bool b6, .slice A6 n6 c6, .bool d6, .slice B6 m6 e6], fun vΦ wΦ => RatRep wΦ vΦ ((x * ((P : Rat))) + halfR), fun vΦ wΦ => IntRep wΦ vΦ (nearR (x * (P : Rat))), fun vΦ _ => vΦ = .int .i64 k, fun vΦ wΦ => RatRep wΦ vΦ (Rat.divInt (nearR (x * (P : Rat))) P)] iΦ (fun _ _ => True)) vΦ wΦ) [] ?_ ?_ ?_
  · intro i v w w' hi h hk
    rcases (show i = 0 ∨ i = 1 ∨ i = 2 ∨ i = 3 ∨ i = 4 ∨ i = 5 ∨ i = 6 ∨ i = 7 ∨ i = 8 by omega) with rfl | rfl | rfl | rfl | rfl | rfl | rfl | rfl | rfl
    all_goals simp only [gz, gs] at h ⊢
    all_goals first | exact h | exact IntRep.below h hk | exact RatRep.below h hk
  · intro i hi vs w3 hk3 hd
    have S3 := S.drew.below hk3
    have a0 := S3.c 2 0 rfl rfl
    have a1 := S3.c 2 1 rfl rfl
    have a2 := S3.c 2 2 rfl rfl
    have a3 := S3.c 2 3 rfl rfl
    have a4 := S3.c 0 0 rfl rfl
    have a5 := S3.c 0 1 rfl rfl
    have a6 := S3.c 0 2 rfl rfl
    have a7 := S3.c 0 3 rfl rfl
    match i, hi with
    | 0, _ =>
      refine step_yes [] rfl (by kernel_rfl) fun K hK => ?_; simp only [frD] at hK ⊢; refine ⟨by rfl, ?_⟩; go_simp
      exact hK _ _ ⟨Below.refl _ _, rfl, by simp⟩
    | 1, _ =>
      refine step_yes [] rfl (by kernel_rfl) fun K hK => ?_; simp only [frD] at hK ⊢; refine ⟨by rfl, ?_⟩; go_simp
      exact hK _ _ ⟨Below.refl _ _, rfl, by simp⟩
    | 2, _ =>
      have e1 := hd 1 (cm (by kernel_rfl)); simp only [gz, gs] at e1
      refine step_yes [(1, some 15)] rfl (by kernel_rfl) fun K hK => ?_; simp only [frD, e1] at hK ⊢; refine ⟨by rfl, ?_⟩; go_simp
      refine ((gpower_num h0 hk1 hP)).mono ?_; rintro e w4 ⟨U, rfl, hr, hk4⟩; exact hK _ _ ⟨hk4, hr, by simp⟩
    | 3, _ =>
      have e0 := hd 0 (cm (by kernel_rfl)); simp only [gz] at e0; have h2 := hd 2 (cm (by kernel_rfl)); simp only [gz, gs] at h2
      refine step_yes [(0, some 14), (2, some 16)] rfl (by kernel_rfl) fun K hK => ?_; simp only [frD, e0] at hK ⊢; refine ⟨by rfl, ?_⟩; go_simp
      refine ((gmul_num (S3.ri 3 rfl) (h2.num (by omega)))).mono ?_; rintro e w4 ⟨U, rfl, hr, hk4⟩; exact hK _ _ ⟨hk4, hr, by simp⟩
    | 4, _ =>
      refine step_yes [] rfl (by kernel_rfl) fun K hK => ?_; simp only [frD] at hK ⊢; refine ⟨by rfl, ?_⟩; go_simp
      exact hK _ _ ⟨Below.refl _ _, rfl, by simp⟩
    | 5, _ =>
      have h3 := hd 3 (cm (by kernel_rfl)); simp only [gz, gs] at h3; have e4 := hd 4 (cm (by kernel_rfl)); simp only [gz, gs] at e4
      refine step_yes [(3, some 17), (4, some 18)] rfl (by kernel_rfl) fun K hK => ?_; simp only [frD, e4] at hK ⊢; refine ⟨by rfl, ?_⟩; go_simp
      refine ((gadd_num (h3.num (by omega)) ((S3.qi 0 rfl).num (by omega)))).mono ?_; rintro e w4 ⟨U, rfl, hr, hk4⟩; exact hK _ _ ⟨hk4, hr, by simp⟩
    | 6, _ =>
      have h5 := hd 5 (cm (by kernel_rfl)); simp only [gz, gs] at h5
      refine step_yes [(5, some 19)] rfl (by kernel_rfl) fun K hK => ?_; simp only [frD] at hK ⊢; refine ⟨by rfl, ?_⟩; go_simp
      refine ((gives_eq (gfloor_num (h5.num (by omega))) (show (x * (P : Rat) + halfR).floor = nearR (x * (P : Rat)) from rfl))).mono ?_; rintro e w4 ⟨U, rfl, hr, hk4⟩; exact hK _ _ ⟨hk4, hr, by simp⟩
    | 7, _ =>
      refine step_yes [] rfl (by kernel_rfl) fun K hK => ?_; simp only [frD] at hK ⊢; refine ⟨by rfl, ?_⟩; go_simp
      exact hK _ _ ⟨Below.refl _ _, rfl, by simp⟩
    | 8, _ =>
      have h6 := hd 6 (cm (by kernel_rfl)); simp only [gz, gs] at h6; have e7 := hd 7 (cm (by kernel_rfl)); simp only [gz, gs] at e7
      refine step_yes [(6, some 20), (7, some 21)] rfl (by kernel_rfl) fun K hK => ?_; simp only [frD, e7] at hK ⊢; refine ⟨by rfl, ?_⟩; go_simp
      refine ((gpart_num h6 (by omega) h0 hk1 hP)).mono ?_; rintro e w4 ⟨U, rfl, hr, hk4⟩; exact hK _ _ ⟨hk4, hr, by simp⟩
    | i + 9, hi => exact absurd hi (by omega)
  · intro vs W7 hk3 hΦ _
    simp only [List.drop_succ_cons, List.drop_zero]
    rw [fr_frD, show (List.range 9).map _ = [(0, some 14), (1, some 15), (2, some 16), (3, some 17), (4, some 18), (5, some 19), (6, some 20), (7, some 21), (8, some 22)] by kernel_rfl]
    have pa0 := hΦ 0 (by omega); simp only [gz] at pa0
    have pa1 := hΦ 1 (by omega); simp only [gz, gs] at pa1
    have pa2 := hΦ 2 (by omega); simp only [gz, gs] at pa2
    have pa3 := hΦ 3 (by omega); simp only [gz, gs] at pa3
    have pa4 := hΦ 4 (by omega); simp only [gz, gs] at pa4
    have pa5 := hΦ 5 (by omega); simp only [gz, gs] at pa5
    have pa6 := hΦ 6 (by omega); simp only [gz, gs] at pa6
    have pa7 := hΦ 7 (by omega); simp only [gz, gs] at pa7
    have pa8 := hΦ 8 (by omega); simp only [gz, gs] at pa8
    clear hΦ
    simp only [frD, pa0, pa1, pa4, pa7]
    simp only [Act.put, List.setIfInBounds_toArray, List.set_cons_zero, List.set_cons_succ]
    clear pa0 pa1 pa4 pa7
    generalize vs 2 = Upa2 at pa2 ⊢
    generalize vs 3 = Upa3 at pa3 ⊢
    generalize vs 5 = Upa5 at pa5 ⊢
    generalize vs 6 = Upa6 at pa6 ⊢
    generalize vs 8 = Upa8 at pa8 ⊢
    replace S := S.drew.below hk3
    clear pa2
    clear pa3
    clear pa5
    clear pa6
    obtain ⟨b7, A7, n7, c7, d7, B7, m7, e7, rfl⟩ := pa8.open_
    replace S := S.addQ pa8
    clear pa8
    clear hk3
    have r1_0 := S.c 1 0 rfl rfl
    have f1_0 := S.f 1 0 rfl
    have r1_1 := S.c 1 1 rfl rfl
    have f1_1 := S.f 1 1 rfl
    have r1_2 := S.c 1 2 rfl rfl
    have f1_2 := S.f 1 2 rfl
    have r1_3 := S.c 1 3 rfl rfl
    have f1_3 := S.f 1 3 rfl
    go_wp2
    replace S := (S.put4 1 rfl rfl rfl (x' := .bool b7) (y' := .slice A7 n7 c7) (z' := .bool d7) (u' := .slice B7 m7 e7))
    refine bodyPost_ret (v := .tuple #[.agg #[.bool b7, .slice A7 n7 c7, .bool d7, .slice B7 m7 e7], .int .i64 0]) (by simp [results, Tryz.results57, go_sem, S.c 1 0 rfl rfl, S.c 1 1 rfl rfl, S.c 1 2 rfl rfl, S.c 1 3 rfl rfl]) rfl ?_
    exact ⟨_, rfl, by rw [if_pos rfl]; exact S.qi 0 rfl, S.k⟩
end Go.Proofs.YtmochehkkadjnaaGreatDoor
