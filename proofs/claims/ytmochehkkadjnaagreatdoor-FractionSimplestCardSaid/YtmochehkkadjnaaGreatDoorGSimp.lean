/- The walks of the reference's simplest, Simplest. -/
import Derived.Test.YtmochehkkadjnaaGreatDoorGRest
import Derived.Test.YtmochehkkadjnaaGreatDoorMgStab
namespace Go.Proofs.YtmochehkkadjnaaGreatDoor
open Go.RowKit Go.Shelf

set_option maxRecDepth 100000 in
set_option maxHeartbeats 1000000 in
theorem gsimplest_up {w : World} {V1 V2 : Value} {x y : Rat} (h1 : RatNum w V1 x) (h2 : RatNum w V2 y) (hc : ((x.ceil : Int) : Rat) ≤ y) (zx : szR x ≤ 20000) (zy : szR y ≤ 20000) : Calls Tryz.prog 103 #[V1, V2] w (RGives ((x.ceil : Int) : Rat) w) := by
  obtain ⟨b3, A3, n3, c3, d3, B3, m3, e3, rfl⟩ := h1.open_
  have z0 := h1.sz
  obtain ⟨b4, A4, n4, c4, d4, B4, m4, e4, rfl⟩ := h2.open_
  have z1 := h2.sz
  have zn := szR_num zx
  have zc := szR_int x.ceil
  have y0 := lenI_ceil x
  obtain ⟨s1, hs1⟩ : ∃ s, cmpR (((x.ceil : Int) : Rat)) y = s := ⟨_, rfl⟩
  have t1 : decide (s1 ≤ 0) = true := by exact decide_eq_true (by rw [← hs1]; exact (cmpR_le _ _).2 hc)
  have HS1 := Lib.hid hs1
  clear hs1
  have S := (((St.start w).addR h1).addR h2)
  clear h1 h2
  go_enter Tryz.func103, Tryz.ntmps103
  go_upto_region 1 with fail
  replace S := (((S.alloc 28 [.bool b3, .slice A3 n3 c3, .bool d3, .slice B3 m3 e3]).alloc 28 [.bool b4, .slice A4 n4 c4, .bool d4, .slice B4 m4 e4]).alloc 28 [.bool false, .slice none 0 0, .bool false, .slice none 0 0])
  simp only [World.size_alloc] at S
  obtain ⟨W1, eW, S⟩ := S.pack
  rw [eW]
  clear eW
  have r0_0 := S.c 2 0 rfl rfl
  have r0_1 := S.c 2 1 rfl rfl
  have r0_2 := S.c 2 2 rfl rfl
  have r0_3 := S.c 2 3 rfl rfl
  go_wp2_with fail
  refine ((gceil_num (S.ri 1 rfl))).mono ?_
  rintro e W2 ⟨U2, rfl, hp, hk⟩
  obtain ⟨b5, A5, n5, c5, rfl⟩ := hp.open3
  replace S := (S.below hk).addI hp
  clear hk hp
  clear r0_0 r0_1 r0_2 r0_3
  go_upto_region 2 with fail
  replace S := (S.alloc 24 [.bool b5, .slice A5 n5 c5])
  obtain ⟨W3, eW, S⟩ := S.pack
  rw [eW]
  clear eW
  generalize W2.heap.size = P1 at *
  refine wp_region_steps (m := 4) rfl (by kernel_rfl) (fun iΦ vΦ wΦ => (List.getD [fun vΦ _ => vΦ = .agg #[.bool b5, .slice A5 n5 c5], fun vΦ wΦ => IntRep wΦ vΦ (1), fun vΦ wΦ => RatRep wΦ vΦ (((x.ceil : Int) : Rat)), fun vΦ wΦ => ∃ b, vΦ = .pointer (some ⟨b, 0, none⟩) ∧ W3.heap.size ≤ b ∧ Own wΦ b 28 [.bool false, .slice none 0 0, .bool false, .slice none 0 0]] iΦ (fun _ _ => True)) vΦ wΦ) [3] ?_ ?_ ?_
  · intro i v w w' _ h hk
    refine stabL_get ?_ i v w w' h hk
    exact stab_cons st_e (stab_cons st_i (stab_cons st_q (stab_cons st_a stab_nil)))
  · intro i hi vs w3 hk3 hd
    have S3 := S.drew.below hk3
    have a0 := S3.c 0 0 rfl rfl
    have a1 := S3.c 0 1 rfl rfl
    match i, hi with
    | 0, _ =>
      refine step_val0 [] (fun vΦ _ => vΦ = .agg #[.bool b5, .slice A5 n5 c5]) rfl (by kernel_rfl) rfl (fun _ _ h => h) rfl fun K hK => ?_; clear hd; simp only [frD] at hK ⊢; go_simp
      exact hK _ _ (Below.refl _ _) rfl
    | 1, _ =>
      refine step_call (F := 85) (X := .func (.func 85) #[] #[]) (A := #[.int .i64 1]) (B := #[.int .i64 1]) [] (fun vΦ wΦ => IntRep wΦ vΦ (1)) rfl (by kernel_rfl) (fun _ _ h => h) rfl (wanted_none rfl) rfl rfl (by kernel_rfl) rfl (by kernel_rfl) rfl Tryz.func85 (by kernel_rfl) (by kernel_rfl) ?_
      refine ((whole_int 1 (by omega) (by omega))).mono ?_; rintro e w4 ⟨U, rfl, hr, hk4⟩; exact ⟨_, rfl, hk4, hr⟩
    | 2, _ =>
      have qe0 : (vs 0) = .agg #[.bool b5, .slice A5 n5 c5] := hd 0 (cm (by kernel_rfl)); have h1 : IntRep w3 (vs 1) (1) := hd 1 (cm (by kernel_rfl)); obtain ⟨b9a, A9a, n9a, c9a, q9a⟩ := h1.open3
      refine step_val0 [(0, some 18), (1, some 19)] (fun vΦ wΦ => RatRep wΦ vΦ (((x.ceil : Int) : Rat))) rfl (by kernel_rfl) rfl (fun _ _ h => h) rfl fun K hK => ?_; clear hd; simp only [frD, qe0, q9a] at hK ⊢; go_simp
      rw [q9a] at h1
      exact hK _ _ (Below.refl _ _) (RatRep.whole (S3.ii 0 rfl) h1)
    | 3, _ =>
      refine step_yes [] rfl (by kernel_rfl) fun K hK => ?_; simp only [frD] at hK ⊢; refine ⟨by rfl, ?_⟩; go_simp
      exact hK _ _ ⟨(Below.refl _ _).alloc (Nat.le_refl _) _, ⟨_, rfl, hk3.size, Own.new w3 _ _⟩, fun _ => ⟨rfl, by simp⟩⟩
    | i + 4, hi => exact absurd hi (by omega)
  · intro vs W4 hk3 hΦ _
    simp only [List.drop_succ_cons, List.drop_zero]
    rw [fr_frD, show (List.range 4).map _ = [(0, some 18), (1, some 19), (2, some 20), (3, some 6)] by kernel_rfl]
    have pa0 : (vs 0) = .agg #[.bool b5, .slice A5 n5 c5] := hΦ 0 (by decide)
    have pa1 : IntRep W4 (vs 1) (1) := hΦ 1 (by decide)
    have pa2 : RatRep W4 (vs 2) (((x.ceil : Int) : Rat)) := hΦ 2 (by decide)
    have pa3 : ∃ b, (vs 3) = .pointer (some ⟨b, 0, none⟩) ∧ W3.heap.size ≤ b ∧ Own W4 b 28 [.bool false, .slice none 0 0, .bool false, .slice none 0 0] := hΦ 3 (by decide)
    clear hΦ
    obtain ⟨bpa3, qA3, hlA3, hOA3⟩ := pa3
    simp only [frD, pa0, qA3]
    simp only [Act.put, List.setIfInBounds_toArray, List.set_cons_zero, List.set_cons_succ]
    clear pa0
    generalize vs 1 = Upa1 at pa1 ⊢
    generalize vs 2 = Upa2 at pa2 ⊢
    replace S := S.drew.box (S.drew.below hk3) hOA3 hlA3
    clear qA3 hlA3 hOA3
    clear pa1
    obtain ⟨b6, A6, n6, c6, d6, B6, m6, e6, rfl⟩ := pa2.open_
    replace S := S.addQ pa2
    clear pa2
    clear hk3
    have r4_0 := S.c 0 0 rfl rfl
    have f4_0 := S.f 0 0 rfl
    have r4_1 := S.c 0 1 rfl rfl
    have f4_1 := S.f 0 1 rfl
    have r4_2 := S.c 0 2 rfl rfl
    have f4_2 := S.f 0 2 rfl
    have r4_3 := S.c 0 3 rfl rfl
    have f4_3 := S.f 0 3 rfl
    go_upto_region 3 with fail
    replace S := (S.put4 0 rfl rfl rfl (x' := .bool b6) (y' := .slice A6 n6 c6) (z' := .bool d6) (u' := .slice B6 m6 e6))
    obtain ⟨W5, eW, S⟩ := S.pack
    rw [eW]
    clear eW
    clear r4_0 f4_0 r4_1 f4_1 r4_2 f4_2 r4_3 f4_3
    have r1_0 := S.c 3 0 rfl rfl
    have r1_1 := S.c 3 1 rfl rfl
    have r1_2 := S.c 3 2 rfl rfl
    have r1_3 := S.c 3 3 rfl rfl
    have r4_0 := S.c 0 0 rfl rfl
    have r4_1 := S.c 0 1 rfl rfl
    have r4_2 := S.c 0 2 rfl rfl
    have r4_3 := S.c 0 3 rfl rfl
    go_wp2_with fail
    refine ((gcompare_s ((S.qi 0 rfl).num (by omega)) (S.ri 2 rfl) (by omega) HS1.out)).mono ?_
    rintro e W6 ⟨rfl, hk⟩
    replace S := S.below hk
    clear hk
    clear r1_0 r1_1 r1_2 r1_3 r4_0 r4_1 r4_2 r4_3
    have r2_0 := S.c 2 0 rfl rfl
    have f2_0 := S.f 2 0 rfl
    have r2_1 := S.c 2 1 rfl rfl
    have f2_1 := S.f 2 1 rfl
    have r2_2 := S.c 2 2 rfl rfl
    have f2_2 := S.f 2 2 rfl
    have r2_3 := S.c 2 3 rfl rfl
    have f2_3 := S.f 2 3 rfl
    have r4_0 := S.c 0 0 rfl rfl
    have r4_1 := S.c 0 1 rfl rfl
    have r4_2 := S.c 0 2 rfl rfl
    have r4_3 := S.c 0 3 rfl rfl
    go_wp2
    replace S := (S.put4 2 rfl rfl rfl (x' := .bool b6) (y' := .slice A6 n6 c6) (z' := .bool d6) (u' := .slice B6 m6 e6))
    refine bodyPost_ret (v := .agg #[.bool b6, .slice A6 n6 c6, .bool d6, .slice B6 m6 e6]) (by simp [results, Tryz.results103, go_sem, S.c 2 0 rfl rfl, S.c 2 1 rfl rfl, S.c 2 2 rfl rfl, S.c 2 3 rfl rfl]) rfl ?_
    exact ⟨_, rfl, S.qi 0 rfl, S.k⟩
set_option maxRecDepth 100000 in
set_option maxHeartbeats 2000000 in
theorem gsimplest_step {n : Nat} {w : World} {V1 V2 : Value} {x y : Rat} (h1 : RatNum w V1 x) (h2 : RatNum w V2 y) (hx0 : 0 < x) (hxy : x ≤ y) (hn : x.den + y.den ≤ n + 1) (hc : ¬ ((x.ceil : Int) : Rat) ≤ y) (zx : szR x ≤ 20000) (zy : szR y ≤ 20000) (IH : ∀ w V1 V2, RatNum w V1 (1 / (y - ((x.floor : Int) : Rat))) → RatNum w V2 (1 / (x - ((x.floor : Int) : Rat))) → Calls Tryz.prog 103 #[V1, V2] w (RGives (simpR n (1 / (y - ((x.floor : Int) : Rat))) (1 / (x - ((x.floor : Int) : Rat)))) w)) : Calls Tryz.prog 103 #[V1, V2] w (RGives (simpR (n + 1) x y) w) := by
  obtain ⟨b3, A3, n3, c3, d3, B3, m3, e3, rfl⟩ := h1.open_
  have z0 := h1.sz
  obtain ⟨b4, A4, n4, c4, d4, B4, m4, e4, rfl⟩ := h2.open_
  have z1 := h2.sz
  obtain ⟨g1, g2, g3, g4, g5, g6, g7⟩ := simp_step hx0 hxy hn hc rfl
  obtain ⟨q1, q2⟩ := simp_pos (n := n) g3 g4 g5
  have q3 := szR_div 1 (simpR n (1 / (y - ((x.floor : Int) : Rat))) (1 / (x - ((x.floor : Int) : Rat)))) (fun e => by rw [e] at q1; exact Rat.lt_irrefl q1)
  have q4 : szR (1 : Rat) ≤ 1 := Nat.le_trans (szR_int 1) (by have := lenI_one; omega)
  have q5 := lenI_one
  have zn := szR_num zx
  have zc := szR_int x.ceil
  have zf := szR_int x.floor
  have y0 := lenI_ceil x
  have y1 := lenI_floor x
  have y2 := szR_int 1
  have y3 := szR_sub y (((x.floor : Int) : Rat))
  have y4 := szR_sub x (((x.floor : Int) : Rat))
  have y5 := szR_add (((x.floor : Int) : Rat)) (1 / simpR n (1 / (y - ((x.floor : Int) : Rat))) (1 / (x - ((x.floor : Int) : Rat))))
  obtain ⟨s1, hs1⟩ : ∃ s, cmpR (((x.ceil : Int) : Rat)) y = s := ⟨_, rfl⟩
  have t1 : decide (s1 ≤ 0) = false := by exact decide_eq_false (by rw [← hs1]; exact fun h => hc ((cmpR_le _ _).1 h))
  have HS1 := Lib.hid hs1
  clear hs1
  have S := (((St.start w).addR h1).addR h2)
  clear h1 h2
  go_enter Tryz.func103, Tryz.ntmps103
  go_upto_region 1 with fail
  replace S := (((S.alloc 28 [.bool b3, .slice A3 n3 c3, .bool d3, .slice B3 m3 e3]).alloc 28 [.bool b4, .slice A4 n4 c4, .bool d4, .slice B4 m4 e4]).alloc 28 [.bool false, .slice none 0 0, .bool false, .slice none 0 0])
  simp only [World.size_alloc] at S
  obtain ⟨W1, eW, S⟩ := S.pack
  rw [eW]
  clear eW
  have r0_0 := S.c 2 0 rfl rfl
  have r0_1 := S.c 2 1 rfl rfl
  have r0_2 := S.c 2 2 rfl rfl
  have r0_3 := S.c 2 3 rfl rfl
  go_wp2_with fail
  refine ((gceil_num (S.ri 1 rfl))).mono ?_
  rintro e W2 ⟨U2, rfl, hp, hk⟩
  obtain ⟨b5, A5, n5, c5, rfl⟩ := hp.open3
  replace S := (S.below hk).addI hp
  clear hk hp
  clear r0_0 r0_1 r0_2 r0_3
  go_upto_region 2 with fail
  replace S := (S.alloc 24 [.bool b5, .slice A5 n5 c5])
  obtain ⟨W3, eW, S⟩ := S.pack
  rw [eW]
  clear eW
  generalize W2.heap.size = P1 at *
  refine wp_region_steps (m := 4) rfl (by kernel_rfl) (fun iΦ vΦ wΦ => (List.getD [fun vΦ _ => vΦ = .agg #[.bool b5, .slice A5 n5 c5], fun vΦ wΦ => IntRep wΦ vΦ (1), fun vΦ wΦ => RatRep wΦ vΦ (((x.ceil : Int) : Rat)), fun vΦ wΦ => ∃ b, vΦ = .pointer (some ⟨b, 0, none⟩) ∧ W3.heap.size ≤ b ∧ Own wΦ b 28 [.bool false, .slice none 0 0, .bool false, .slice none 0 0]] iΦ (fun _ _ => True)) vΦ wΦ) [3] ?_ ?_ ?_
  · intro i v w w' _ h hk
    refine stabL_get ?_ i v w w' h hk
    exact stab_cons st_e (stab_cons st_i (stab_cons st_q (stab_cons st_a stab_nil)))
  · intro i hi vs w3 hk3 hd
    have S3 := S.drew.below hk3
    have a0 := S3.c 0 0 rfl rfl
    have a1 := S3.c 0 1 rfl rfl
    match i, hi with
    | 0, _ =>
      refine step_val0 [] (fun vΦ _ => vΦ = .agg #[.bool b5, .slice A5 n5 c5]) rfl (by kernel_rfl) rfl (fun _ _ h => h) rfl fun K hK => ?_; clear hd; simp only [frD] at hK ⊢; go_simp
      exact hK _ _ (Below.refl _ _) rfl
    | 1, _ =>
      refine step_call (F := 85) (X := .func (.func 85) #[] #[]) (A := #[.int .i64 1]) (B := #[.int .i64 1]) [] (fun vΦ wΦ => IntRep wΦ vΦ (1)) rfl (by kernel_rfl) (fun _ _ h => h) rfl (wanted_none rfl) rfl rfl (by kernel_rfl) rfl (by kernel_rfl) rfl Tryz.func85 (by kernel_rfl) (by kernel_rfl) ?_
      refine ((whole_int 1 (by omega) (by omega))).mono ?_; rintro e w4 ⟨U, rfl, hr, hk4⟩; exact ⟨_, rfl, hk4, hr⟩
    | 2, _ =>
      have qe0 : (vs 0) = .agg #[.bool b5, .slice A5 n5 c5] := hd 0 (cm (by kernel_rfl)); have h1 : IntRep w3 (vs 1) (1) := hd 1 (cm (by kernel_rfl)); obtain ⟨b9a, A9a, n9a, c9a, q9a⟩ := h1.open3
      refine step_val0 [(0, some 18), (1, some 19)] (fun vΦ wΦ => RatRep wΦ vΦ (((x.ceil : Int) : Rat))) rfl (by kernel_rfl) rfl (fun _ _ h => h) rfl fun K hK => ?_; clear hd; simp only [frD, qe0, q9a] at hK ⊢; go_simp
      rw [q9a] at h1
      exact hK _ _ (Below.refl _ _) (RatRep.whole (S3.ii 0 rfl) h1)
    | 3, _ =>
      refine step_yes [] rfl (by kernel_rfl) fun K hK => ?_; simp only [frD] at hK ⊢; refine ⟨by rfl, ?_⟩; go_simp
      exact hK _ _ ⟨(Below.refl _ _).alloc (Nat.le_refl _) _, ⟨_, rfl, hk3.size, Own.new w3 _ _⟩, fun _ => ⟨rfl, by simp⟩⟩
    | i + 4, hi => exact absurd hi (by omega)
  · intro vs W4 hk3 hΦ _
    simp only [List.drop_succ_cons, List.drop_zero]
    rw [fr_frD, show (List.range 4).map _ = [(0, some 18), (1, some 19), (2, some 20), (3, some 6)] by kernel_rfl]
    have pa0 : (vs 0) = .agg #[.bool b5, .slice A5 n5 c5] := hΦ 0 (by decide)
    have pa1 : IntRep W4 (vs 1) (1) := hΦ 1 (by decide)
    have pa2 : RatRep W4 (vs 2) (((x.ceil : Int) : Rat)) := hΦ 2 (by decide)
    have pa3 : ∃ b, (vs 3) = .pointer (some ⟨b, 0, none⟩) ∧ W3.heap.size ≤ b ∧ Own W4 b 28 [.bool false, .slice none 0 0, .bool false, .slice none 0 0] := hΦ 3 (by decide)
    clear hΦ
    obtain ⟨bpa3, qA3, hlA3, hOA3⟩ := pa3
    simp only [frD, pa0, qA3]
    simp only [Act.put, List.setIfInBounds_toArray, List.set_cons_zero, List.set_cons_succ]
    clear pa0
    generalize vs 1 = Upa1 at pa1 ⊢
    generalize vs 2 = Upa2 at pa2 ⊢
    replace S := S.drew.box (S.drew.below hk3) hOA3 hlA3
    clear qA3 hlA3 hOA3
    clear pa1
    obtain ⟨b6, A6, n6, c6, d6, B6, m6, e6, rfl⟩ := pa2.open_
    replace S := S.addQ pa2
    clear pa2
    clear hk3
    have r4_0 := S.c 0 0 rfl rfl
    have f4_0 := S.f 0 0 rfl
    have r4_1 := S.c 0 1 rfl rfl
    have f4_1 := S.f 0 1 rfl
    have r4_2 := S.c 0 2 rfl rfl
    have f4_2 := S.f 0 2 rfl
    have r4_3 := S.c 0 3 rfl rfl
    have f4_3 := S.f 0 3 rfl
    go_upto_region 3 with fail
    replace S := (S.put4 0 rfl rfl rfl (x' := .bool b6) (y' := .slice A6 n6 c6) (z' := .bool d6) (u' := .slice B6 m6 e6))
    obtain ⟨W5, eW, S⟩ := S.pack
    rw [eW]
    clear eW
    clear r4_0 f4_0 r4_1 f4_1 r4_2 f4_2 r4_3 f4_3
    have r1_0 := S.c 3 0 rfl rfl
    have r1_1 := S.c 3 1 rfl rfl
    have r1_2 := S.c 3 2 rfl rfl
    have r1_3 := S.c 3 3 rfl rfl
    have r4_0 := S.c 0 0 rfl rfl
    have r4_1 := S.c 0 1 rfl rfl
    have r4_2 := S.c 0 2 rfl rfl
    have r4_3 := S.c 0 3 rfl rfl
    go_wp2_with fail
    refine ((gcompare_s ((S.qi 0 rfl).num (by omega)) (S.ri 2 rfl) (by omega) HS1.out)).mono ?_
    rintro e W6 ⟨rfl, hk⟩
    replace S := S.below hk
    clear hk
    clear r1_0 r1_1 r1_2 r1_3 r4_0 r4_1 r4_2 r4_3
    have r0_0 := S.c 4 0 rfl rfl
    have r0_1 := S.c 4 1 rfl rfl
    have r0_2 := S.c 4 2 rfl rfl
    have r0_3 := S.c 4 3 rfl rfl
    go_wp2_with fail
    refine ((gfloor_num (S.ri 3 rfl))).mono ?_
    rintro e W7 ⟨U7, rfl, hp, hk⟩
    obtain ⟨b7, A7, n7, c7, rfl⟩ := hp.open3
    replace S := (S.below hk).addI hp
    clear hk hp
    clear r0_0 r0_1 r0_2 r0_3
    go_upto_region 6 with fail
    replace S := (S.alloc 24 [.bool b7, .slice A7 n7 c7])
    obtain ⟨W8, eW, S⟩ := S.pack
    rw [eW]
    clear eW
    generalize W7.heap.size = P2 at *
    refine wp_region_steps (m := 4) rfl (by kernel_rfl) (fun iΦ vΦ wΦ => (List.getD [fun vΦ _ => vΦ = .agg #[.bool b7, .slice A7 n7 c7], fun vΦ wΦ => IntRep wΦ vΦ (1), fun vΦ wΦ => RatRep wΦ vΦ (((x.floor : Int) : Rat)), fun vΦ wΦ => ∃ b, vΦ = .pointer (some ⟨b, 0, none⟩) ∧ W8.heap.size ≤ b ∧ Own wΦ b 28 [.bool false, .slice none 0 0, .bool false, .slice none 0 0]] iΦ (fun _ _ => True)) vΦ wΦ) [3] ?_ ?_ ?_
    · intro i v w w' _ h hk
      refine stabL_get ?_ i v w w' h hk
      exact stab_cons st_e (stab_cons st_i (stab_cons st_q (stab_cons st_a stab_nil)))
    · intro i hi vs w3 hk3 hd
      have S3 := S.drew.below hk3
      have a0 := S3.c 0 0 rfl rfl
      have a1 := S3.c 0 1 rfl rfl
      match i, hi with
      | 0, _ =>
        refine step_val0 [] (fun vΦ _ => vΦ = .agg #[.bool b7, .slice A7 n7 c7]) rfl (by kernel_rfl) rfl (fun _ _ h => h) rfl fun K hK => ?_; clear hd; simp only [frD] at hK ⊢; go_simp
        exact hK _ _ (Below.refl _ _) rfl
      | 1, _ =>
        refine step_call (F := 85) (X := .func (.func 85) #[] #[]) (A := #[.int .i64 1]) (B := #[.int .i64 1]) [] (fun vΦ wΦ => IntRep wΦ vΦ (1)) rfl (by kernel_rfl) (fun _ _ h => h) rfl (wanted_none rfl) rfl rfl (by kernel_rfl) rfl (by kernel_rfl) rfl Tryz.func85 (by kernel_rfl) (by kernel_rfl) ?_
        refine ((whole_int 1 (by omega) (by omega))).mono ?_; rintro e w4 ⟨U, rfl, hr, hk4⟩; exact ⟨_, rfl, hk4, hr⟩
      | 2, _ =>
        have qe0 : (vs 0) = .agg #[.bool b7, .slice A7 n7 c7] := hd 0 (cm (by kernel_rfl)); have h1 : IntRep w3 (vs 1) (1) := hd 1 (cm (by kernel_rfl)); obtain ⟨b9a, A9a, n9a, c9a, q9a⟩ := h1.open3
        refine step_val0 [(0, some 28), (1, some 29)] (fun vΦ wΦ => RatRep wΦ vΦ (((x.floor : Int) : Rat))) rfl (by kernel_rfl) rfl (fun _ _ h => h) rfl fun K hK => ?_; clear hd; simp only [frD, qe0, q9a] at hK ⊢; go_simp
        rw [q9a] at h1
        exact hK _ _ (Below.refl _ _) (RatRep.whole (S3.ii 0 rfl) h1)
      | 3, _ =>
        refine step_yes [] rfl (by kernel_rfl) fun K hK => ?_; simp only [frD] at hK ⊢; refine ⟨by rfl, ?_⟩; go_simp
        exact hK _ _ ⟨(Below.refl _ _).alloc (Nat.le_refl _) _, ⟨_, rfl, hk3.size, Own.new w3 _ _⟩, fun _ => ⟨rfl, by simp⟩⟩
      | i + 4, hi => exact absurd hi (by omega)
    · intro vs W9 hk3 hΦ _
      simp only [List.drop_succ_cons, List.drop_zero]
      rw [fr_frD, show (List.range 4).map _ = [(0, some 28), (1, some 29), (2, some 30), (3, some 8)] by kernel_rfl]
      have pb0 : (vs 0) = .agg #[.bool b7, .slice A7 n7 c7] := hΦ 0 (by decide)
      have pb1 : IntRep W9 (vs 1) (1) := hΦ 1 (by decide)
      have pb2 : RatRep W9 (vs 2) (((x.floor : Int) : Rat)) := hΦ 2 (by decide)
      have pb3 : ∃ b, (vs 3) = .pointer (some ⟨b, 0, none⟩) ∧ W8.heap.size ≤ b ∧ Own W9 b 28 [.bool false, .slice none 0 0, .bool false, .slice none 0 0] := hΦ 3 (by decide)
      clear hΦ
      obtain ⟨bpb3, qA3, hlA3, hOA3⟩ := pb3
      simp only [frD, pb0, qA3]
      simp only [Act.put, List.setIfInBounds_toArray, List.set_cons_zero, List.set_cons_succ]
      clear pb0
      generalize vs 1 = Upb1 at pb1 ⊢
      generalize vs 2 = Upb2 at pb2 ⊢
      replace S := S.drew.box (S.drew.below hk3) hOA3 hlA3
      clear qA3 hlA3 hOA3
      clear pb1
      obtain ⟨b8, A8, n8, c8, d8, B8, m8, e8, rfl⟩ := pb2.open_
      replace S := S.addQ pb2
      clear pb2
      clear hk3
      have r6_0 := S.c 0 0 rfl rfl
      have f6_0 := S.f 0 0 rfl
      have r6_1 := S.c 0 1 rfl rfl
      have f6_1 := S.f 0 1 rfl
      have r6_2 := S.c 0 2 rfl rfl
      have f6_2 := S.f 0 2 rfl
      have r6_3 := S.c 0 3 rfl rfl
      have f6_3 := S.f 0 3 rfl
      go_wp2_with fail
      replace S := (S.put4 0 rfl rfl rfl (x' := .bool b8) (y' := .slice A8 n8 c8) (z' := .bool d8) (u' := .slice B8 m8 e8))
      obtain ⟨W10, eW, S⟩ := S.pack
      rw [eW]
      clear eW
      refine ((gwhole_num 1 (by omega) (by omega))).mono ?_
      rintro e W11 ⟨U11, rfl, hp, hk⟩
      obtain ⟨b9, A9, n9, c9, d9, B9, m9, e9, rfl⟩ := hp.open_
      replace S := (S.below hk).addQ hp
      clear hk hp
      clear r6_0 f6_0 r6_1 f6_1 r6_2 f6_2 r6_3 f6_3
      go_upto_region 8 with fail
      replace S := (S.alloc 28 [.bool b9, .slice A9 n9 c9, .bool d9, .slice B9 m9 e9])
      obtain ⟨W12, eW, S⟩ := S.pack
      rw [eW]
      clear eW
      generalize W11.heap.size = P3 at *
      refine wp_region_late 7 10 (m := 9) rfl (by kernel_rfl) (fun iΦ vΦ wΦ => (List.getD [fun vΦ _ => vΦ = .agg #[.bool b9, .slice A9 n9 c9, .bool d9, .slice B9 m9 e9], fun vΦ _ => vΦ = .agg #[.bool b4, .slice A4 n4 c4, .bool d4, .slice B4 m4 e4], fun vΦ _ => vΦ = .agg #[.bool b8, .slice A8 n8 c8, .bool d8, .slice B8 m8 e8], fun vΦ wΦ => RatRep wΦ vΦ (y - (((x.floor : Int) : Rat))), fun vΦ wΦ => TupQ (0) (1 / (y - ((x.floor : Int) : Rat))) vΦ wΦ, fun vΦ wΦ => TupQ (0) (1 / (y - ((x.floor : Int) : Rat))) vΦ wΦ, fun vΦ wΦ => FstQ (0) (1 / (y - ((x.floor : Int) : Rat))) vΦ wΦ, fun vΦ _ => vΦ = .int .i64 (0), fun vΦ wΦ => ∃ b, vΦ = .pointer (some ⟨b, 0, none⟩) ∧ W12.heap.size ≤ b ∧ Own wΦ b 28 [.bool false, .slice none 0 0, .bool false, .slice none 0 0]] iΦ (fun _ _ => True)) vΦ wΦ) [8] (by simp) ?_ ?_ ?_ ?_
      · intro i v w w' _ h hk
        refine stabL_get ?_ i v w w' h hk
        exact stab_cons st_e (stab_cons st_e (stab_cons st_e (stab_cons st_q (stab_cons st_t (stab_cons st_t (stab_cons st_f (stab_cons st_e (stab_cons st_a stab_nil))))))))
      · intro i hi vs w3 hk3 hd
        have S3 := S.drew.below hk3
        have a0 := S3.c 6 0 rfl rfl
        have a1 := S3.c 6 1 rfl rfl
        have a2 := S3.c 6 2 rfl rfl
        have a3 := S3.c 6 3 rfl rfl
        have a4 := S3.c 1 0 rfl rfl
        have a5 := S3.c 1 1 rfl rfl
        have a6 := S3.c 1 2 rfl rfl
        have a7 := S3.c 1 3 rfl rfl
        have a8 := S3.c 0 0 rfl rfl
        have a9 := S3.c 0 1 rfl rfl
        have a10 := S3.c 0 2 rfl rfl
        have a11 := S3.c 0 3 rfl rfl
        match i, hi with
        | 0, _ =>
          refine step_val0 [] (fun vΦ _ => vΦ = .agg #[.bool b9, .slice A9 n9 c9, .bool d9, .slice B9 m9 e9]) rfl (by kernel_rfl) rfl (fun _ _ h => h) rfl fun K hK => ?_; clear hd; simp only [frD] at hK ⊢; go_simp
          exact hK _ _ (Below.refl _ _) rfl
        | 1, _ =>
          refine step_val0 [] (fun vΦ _ => vΦ = .agg #[.bool b4, .slice A4 n4 c4, .bool d4, .slice B4 m4 e4]) rfl (by kernel_rfl) rfl (fun _ _ h => h) rfl fun K hK => ?_; clear hd; simp only [frD] at hK ⊢; go_simp
          exact hK _ _ (Below.refl _ _) rfl
        | 2, _ =>
          refine step_val0 [] (fun vΦ _ => vΦ = .agg #[.bool b8, .slice A8 n8 c8, .bool d8, .slice B8 m8 e8]) rfl (by kernel_rfl) rfl (fun _ _ h => h) rfl fun K hK => ?_; clear hd; simp only [frD] at hK ⊢; go_simp
          exact hK _ _ (Below.refl _ _) rfl
        | 3, _ =>
          have qe1 : (vs 1) = .agg #[.bool b4, .slice A4 n4 c4, .bool d4, .slice B4 m4 e4] := hd 1 (cm (by kernel_rfl)); have qe2 : (vs 2) = .agg #[.bool b8, .slice A8 n8 c8, .bool d8, .slice B8 m8 e8] := hd 2 (cm (by kernel_rfl))
          refine step_call (F := 60) (X := .func (.func 60) #[] #[]) (A := #[(vs 1), (vs 2)]) (B := #[.agg #[.bool b4, .slice A4 n4 c4, .bool d4, .slice B4 m4 e4], .agg #[.bool b8, .slice A8 n8 c8, .bool d8, .slice B8 m8 e8]]) [(1, some 34), (2, some 35)] (fun vΦ wΦ => RatRep wΦ vΦ (y - (((x.floor : Int) : Rat)))) rfl (by kernel_rfl) (fun _ _ h => h) rfl (wanted_none rfl) rfl rfl (by kernel_rfl) rfl (by kernel_rfl) (by rw [qe1, qe2]) Tryz.func60 (by kernel_rfl) (by kernel_rfl) ?_
          refine ((gsub_num (S3.ri 5 rfl) ((S3.qi 1 rfl).num (by omega)))).mono ?_; rintro e w4 ⟨U, rfl, hr, hk4⟩; exact ⟨_, rfl, hk4, hr⟩
        | 4, _ =>
          have qe0 : (vs 0) = .agg #[.bool b9, .slice A9 n9 c9, .bool d9, .slice B9 m9 e9] := hd 0 (cm (by kernel_rfl)); have h3 : RatRep w3 (vs 3) (y - (((x.floor : Int) : Rat))) := hd 3 (cm (by kernel_rfl))
          refine step_call (F := 58) (X := .func (.func 58) #[] #[]) (A := #[(vs 0), (vs 3)]) (B := #[.agg #[.bool b9, .slice A9 n9 c9, .bool d9, .slice B9 m9 e9], (vs 3)]) [(0, some 33), (3, some 36)] (fun vΦ wΦ => TupQ (0) (1 / (y - ((x.floor : Int) : Rat))) vΦ wΦ) rfl (by kernel_rfl) (fun _ _ h => h) rfl (wanted_none rfl) rfl rfl (by kernel_rfl) rfl (by kernel_rfl) (by rw [qe0]) Tryz.func58 (by kernel_rfl) (by kernel_rfl) ?_
          refine ((rcode_eq (gdivide_num ((S3.qi 0 rfl).num (by omega)) (h3.num (by omega))) (divC_pos g2) rfl)).mono ?_; rintro e w4 ⟨U, rfl, hr, hk4⟩; exact ⟨_, rfl, hk4, ⟨U, rfl, hr⟩⟩
        | 5, _ =>
          have h4 : TupQ (0) (1 / (y - ((x.floor : Int) : Rat))) (vs 4) w3 := hd 4 (cm (by kernel_rfl)); obtain ⟨Q9, q9, hQ9⟩ := h4
          refine step_val0 [(4, some 37)] (fun vΦ wΦ => TupQ (0) (1 / (y - ((x.floor : Int) : Rat))) vΦ wΦ) rfl (by kernel_rfl) rfl (fun _ _ h => h) rfl fun K hK => ?_; clear hd; simp only [frD, q9] at hK ⊢; go_simp
          exact hK _ _ (Below.refl _ _) ⟨Q9, rfl, hQ9⟩
        | 6, _ =>
          have h5 : TupQ (0) (1 / (y - ((x.floor : Int) : Rat))) (vs 5) w3 := hd 5 (cm (by kernel_rfl)); obtain ⟨Q9, q9, hQ9⟩ := h5
          refine step_val0 [(5, some 32)] (fun vΦ wΦ => FstQ (0) (1 / (y - ((x.floor : Int) : Rat))) vΦ wΦ) rfl (by kernel_rfl) rfl (fun _ _ h => h) rfl fun K hK => ?_; clear hd; simp only [frD, q9] at hK ⊢; go_simp
          exact hK _ _ (Below.refl _ _) hQ9
        | 7, _ =>
          have h5 : TupQ (0) (1 / (y - ((x.floor : Int) : Rat))) (vs 5) w3 := hd 5 (cm (by kernel_rfl)); obtain ⟨Q9, q9, hQ9⟩ := h5
          refine step_val0 [(5, some 32)] (fun vΦ _ => vΦ = .int .i64 (0)) rfl (by kernel_rfl) rfl (fun _ _ h => h) rfl fun K hK => ?_; clear hd; simp only [frD, q9] at hK ⊢; go_simp
          exact hK _ _ (Below.refl _ _) rfl
        | 8, _ =>
          refine step_yes [] rfl (by kernel_rfl) fun K hK => ?_; simp only [frD] at hK ⊢; refine ⟨by rfl, ?_⟩; go_simp
          exact hK _ _ ⟨(Below.refl _ _).alloc (Nat.le_refl _) _, ⟨_, rfl, hk3.size, Own.new w3 _ _⟩, fun _ => ⟨rfl, by simp⟩⟩
        | i + 9, hi => exact absurd hi (by omega)
      · intro vs w3 hk3 hd
        have h5 : TupQ (0) (1 / (y - ((x.floor : Int) : Rat))) (vs 5) w3 := hd 5 (cm (by kernel_rfl)); obtain ⟨Q9, q9, hQ9⟩ := h5
        refine pure_at (v := .int .i64 0) [(5, some 32)] rfl (by kernel_rfl) (by exact rfl) fun w4 K hK => ?_; simp only [frD, q9] at hK ⊢; refine ⟨by rfl, ?_⟩; go_simp; exact hK
      · intro vs W13 hk3 hΦ _
        simp only [List.drop_succ_cons, List.drop_zero]
        rw [fr_frD, show (List.range 9).map _ = [(0, some 33), (1, some 34), (2, some 35), (3, some 36), (4, some 37), (5, some 32), (6, some 38), (7, some 39), (8, some 10)] by kernel_rfl]
        have pc0 : (vs 0) = .agg #[.bool b9, .slice A9 n9 c9, .bool d9, .slice B9 m9 e9] := hΦ 0 (by decide)
        have pc1 : (vs 1) = .agg #[.bool b4, .slice A4 n4 c4, .bool d4, .slice B4 m4 e4] := hΦ 1 (by decide)
        have pc2 : (vs 2) = .agg #[.bool b8, .slice A8 n8 c8, .bool d8, .slice B8 m8 e8] := hΦ 2 (by decide)
        have pc3 : RatRep W13 (vs 3) (y - (((x.floor : Int) : Rat))) := hΦ 3 (by decide)
        have pc4 : TupQ (0) (1 / (y - ((x.floor : Int) : Rat))) (vs 4) W13 := hΦ 4 (by decide)
        have pc5 : TupQ (0) (1 / (y - ((x.floor : Int) : Rat))) (vs 5) W13 := hΦ 5 (by decide)
        have pc6 : FstQ (0) (1 / (y - ((x.floor : Int) : Rat))) (vs 6) W13 := hΦ 6 (by decide)
        have pc7 : (vs 7) = .int .i64 (0) := hΦ 7 (by decide)
        have pc8 : ∃ b, (vs 8) = .pointer (some ⟨b, 0, none⟩) ∧ W12.heap.size ≤ b ∧ Own W13 b 28 [.bool false, .slice none 0 0, .bool false, .slice none 0 0] := hΦ 8 (by decide)
        clear hΦ
        obtain ⟨bpc8, qA8, hlA8, hOA8⟩ := pc8
        simp only [frD, pc0, pc1, pc2, pc7, qA8]
        simp only [Act.put, List.setIfInBounds_toArray, List.set_cons_zero, List.set_cons_succ]
        clear pc0 pc1 pc2 pc7
        generalize vs 3 = Upc3 at pc3 ⊢
        generalize vs 4 = Upc4 at pc4 ⊢
        generalize vs 5 = Upc5 at pc5 ⊢
        generalize vs 6 = Upc6 at pc6 ⊢
        replace S := S.drew.box (S.drew.below hk3) hOA8 hlA8
        clear qA8 hlA8 hOA8
        clear pc3
        clear pc4
        clear pc5
        have hp := FstQ.rep pc6
        obtain ⟨b10, A10, n10, c10, d10, B10, m10, e10, rfl⟩ := hp.open_
        replace S := S.addQ hp
        clear hp pc6
        clear hk3
        have r8_0 := S.c 0 0 rfl rfl
        have f8_0 := S.f 0 0 rfl
        have r8_1 := S.c 0 1 rfl rfl
        have f8_1 := S.f 0 1 rfl
        have r8_2 := S.c 0 2 rfl rfl
        have f8_2 := S.f 0 2 rfl
        have r8_3 := S.c 0 3 rfl rfl
        have f8_3 := S.f 0 3 rfl
        go_upto_region 9 with fail
        replace S := (S.put4 0 rfl rfl rfl (x' := .bool b10) (y' := .slice A10 n10 c10) (z' := .bool d10) (u' := .slice B10 m10 e10))
        obtain ⟨W14, eW, S⟩ := S.pack
        rw [eW]
        clear eW
        clear r8_0 f8_0 r8_1 f8_1 r8_2 f8_2 r8_3 f8_3
        refine wp_region_late 7 10 (m := 9) rfl (by kernel_rfl) (fun iΦ vΦ wΦ => (List.getD [fun vΦ _ => vΦ = .agg #[.bool b9, .slice A9 n9 c9, .bool d9, .slice B9 m9 e9], fun vΦ _ => vΦ = .agg #[.bool b3, .slice A3 n3 c3, .bool d3, .slice B3 m3 e3], fun vΦ _ => vΦ = .agg #[.bool b8, .slice A8 n8 c8, .bool d8, .slice B8 m8 e8], fun vΦ wΦ => RatRep wΦ vΦ (x - (((x.floor : Int) : Rat))), fun vΦ wΦ => TupQ (0) (1 / (x - ((x.floor : Int) : Rat))) vΦ wΦ, fun vΦ wΦ => TupQ (0) (1 / (x - ((x.floor : Int) : Rat))) vΦ wΦ, fun vΦ wΦ => FstQ (0) (1 / (x - ((x.floor : Int) : Rat))) vΦ wΦ, fun vΦ _ => vΦ = .int .i64 (0), fun vΦ wΦ => ∃ b, vΦ = .pointer (some ⟨b, 0, none⟩) ∧ W14.heap.size ≤ b ∧ Own wΦ b 28 [.bool false, .slice none 0 0, .bool false, .slice none 0 0]] iΦ (fun _ _ => True)) vΦ wΦ) [8] (by simp) ?_ ?_ ?_ ?_
        · intro i v w w' _ h hk
          refine stabL_get ?_ i v w w' h hk
          exact stab_cons st_e (stab_cons st_e (stab_cons st_e (stab_cons st_q (stab_cons st_t (stab_cons st_t (stab_cons st_f (stab_cons st_e (stab_cons st_a stab_nil))))))))
        · intro i hi vs w3 hk3 hd
          have S3 := S.drew.below hk3
          have a0 := S3.c 8 0 rfl rfl
          have a1 := S3.c 8 1 rfl rfl
          have a2 := S3.c 8 2 rfl rfl
          have a3 := S3.c 8 3 rfl rfl
          have a4 := S3.c 2 0 rfl rfl
          have a5 := S3.c 2 1 rfl rfl
          have a6 := S3.c 2 2 rfl rfl
          have a7 := S3.c 2 3 rfl rfl
          have a8 := S3.c 1 0 rfl rfl
          have a9 := S3.c 1 1 rfl rfl
          have a10 := S3.c 1 2 rfl rfl
          have a11 := S3.c 1 3 rfl rfl
          match i, hi with
          | 0, _ =>
            refine step_val0 [] (fun vΦ _ => vΦ = .agg #[.bool b9, .slice A9 n9 c9, .bool d9, .slice B9 m9 e9]) rfl (by kernel_rfl) rfl (fun _ _ h => h) rfl fun K hK => ?_; clear hd; simp only [frD] at hK ⊢; go_simp
            exact hK _ _ (Below.refl _ _) rfl
          | 1, _ =>
            refine step_val0 [] (fun vΦ _ => vΦ = .agg #[.bool b3, .slice A3 n3 c3, .bool d3, .slice B3 m3 e3]) rfl (by kernel_rfl) rfl (fun _ _ h => h) rfl fun K hK => ?_; clear hd; simp only [frD] at hK ⊢; go_simp
            exact hK _ _ (Below.refl _ _) rfl
          | 2, _ =>
            refine step_val0 [] (fun vΦ _ => vΦ = .agg #[.bool b8, .slice A8 n8 c8, .bool d8, .slice B8 m8 e8]) rfl (by kernel_rfl) rfl (fun _ _ h => h) rfl fun K hK => ?_; clear hd; simp only [frD] at hK ⊢; go_simp
            exact hK _ _ (Below.refl _ _) rfl
          | 3, _ =>
            have qe1 : (vs 1) = .agg #[.bool b3, .slice A3 n3 c3, .bool d3, .slice B3 m3 e3] := hd 1 (cm (by kernel_rfl)); have qe2 : (vs 2) = .agg #[.bool b8, .slice A8 n8 c8, .bool d8, .slice B8 m8 e8] := hd 2 (cm (by kernel_rfl))
            refine step_call (F := 60) (X := .func (.func 60) #[] #[]) (A := #[(vs 1), (vs 2)]) (B := #[.agg #[.bool b3, .slice A3 n3 c3, .bool d3, .slice B3 m3 e3], .agg #[.bool b8, .slice A8 n8 c8, .bool d8, .slice B8 m8 e8]]) [(1, some 42), (2, some 43)] (fun vΦ wΦ => RatRep wΦ vΦ (x - (((x.floor : Int) : Rat)))) rfl (by kernel_rfl) (fun _ _ h => h) rfl (wanted_none rfl) rfl rfl (by kernel_rfl) rfl (by kernel_rfl) (by rw [qe1, qe2]) Tryz.func60 (by kernel_rfl) (by kernel_rfl) ?_
            refine ((gsub_num (S3.ri 7 rfl) ((S3.qi 2 rfl).num (by omega)))).mono ?_; rintro e w4 ⟨U, rfl, hr, hk4⟩; exact ⟨_, rfl, hk4, hr⟩
          | 4, _ =>
            have qe0 : (vs 0) = .agg #[.bool b9, .slice A9 n9 c9, .bool d9, .slice B9 m9 e9] := hd 0 (cm (by kernel_rfl)); have h3 : RatRep w3 (vs 3) (x - (((x.floor : Int) : Rat))) := hd 3 (cm (by kernel_rfl))
            refine step_call (F := 58) (X := .func (.func 58) #[] #[]) (A := #[(vs 0), (vs 3)]) (B := #[.agg #[.bool b9, .slice A9 n9 c9, .bool d9, .slice B9 m9 e9], (vs 3)]) [(0, some 41), (3, some 44)] (fun vΦ wΦ => TupQ (0) (1 / (x - ((x.floor : Int) : Rat))) vΦ wΦ) rfl (by kernel_rfl) (fun _ _ h => h) rfl (wanted_none rfl) rfl rfl (by kernel_rfl) rfl (by kernel_rfl) (by rw [qe0]) Tryz.func58 (by kernel_rfl) (by kernel_rfl) ?_
            refine ((rcode_eq (gdivide_num ((S3.qi 1 rfl).num (by omega)) (h3.num (by omega))) (divC_pos g1) rfl)).mono ?_; rintro e w4 ⟨U, rfl, hr, hk4⟩; exact ⟨_, rfl, hk4, ⟨U, rfl, hr⟩⟩
          | 5, _ =>
            have h4 : TupQ (0) (1 / (x - ((x.floor : Int) : Rat))) (vs 4) w3 := hd 4 (cm (by kernel_rfl)); obtain ⟨Q9, q9, hQ9⟩ := h4
            refine step_val0 [(4, some 45)] (fun vΦ wΦ => TupQ (0) (1 / (x - ((x.floor : Int) : Rat))) vΦ wΦ) rfl (by kernel_rfl) rfl (fun _ _ h => h) rfl fun K hK => ?_; clear hd; simp only [frD, q9] at hK ⊢; go_simp
            exact hK _ _ (Below.refl _ _) ⟨Q9, rfl, hQ9⟩
          | 6, _ =>
            have h5 : TupQ (0) (1 / (x - ((x.floor : Int) : Rat))) (vs 5) w3 := hd 5 (cm (by kernel_rfl)); obtain ⟨Q9, q9, hQ9⟩ := h5
            refine step_val0 [(5, some 40)] (fun vΦ wΦ => FstQ (0) (1 / (x - ((x.floor : Int) : Rat))) vΦ wΦ) rfl (by kernel_rfl) rfl (fun _ _ h => h) rfl fun K hK => ?_; clear hd; simp only [frD, q9] at hK ⊢; go_simp
            exact hK _ _ (Below.refl _ _) hQ9
          | 7, _ =>
            have h5 : TupQ (0) (1 / (x - ((x.floor : Int) : Rat))) (vs 5) w3 := hd 5 (cm (by kernel_rfl)); obtain ⟨Q9, q9, hQ9⟩ := h5
            refine step_val0 [(5, some 40)] (fun vΦ _ => vΦ = .int .i64 (0)) rfl (by kernel_rfl) rfl (fun _ _ h => h) rfl fun K hK => ?_; clear hd; simp only [frD, q9] at hK ⊢; go_simp
            exact hK _ _ (Below.refl _ _) rfl
          | 8, _ =>
            refine step_yes [] rfl (by kernel_rfl) fun K hK => ?_; simp only [frD] at hK ⊢; refine ⟨by rfl, ?_⟩; go_simp
            exact hK _ _ ⟨(Below.refl _ _).alloc (Nat.le_refl _) _, ⟨_, rfl, hk3.size, Own.new w3 _ _⟩, fun _ => ⟨rfl, by simp⟩⟩
          | i + 9, hi => exact absurd hi (by omega)
        · intro vs w3 hk3 hd
          have h5 : TupQ (0) (1 / (x - ((x.floor : Int) : Rat))) (vs 5) w3 := hd 5 (cm (by kernel_rfl)); obtain ⟨Q9, q9, hQ9⟩ := h5
          refine pure_at (v := .int .i64 0) [(5, some 40)] rfl (by kernel_rfl) (by exact rfl) fun w4 K hK => ?_; simp only [frD, q9] at hK ⊢; refine ⟨by rfl, ?_⟩; go_simp; exact hK
        · intro vs W15 hk3 hΦ _
          simp only [List.drop_succ_cons, List.drop_zero]
          rw [fr_frD, show (List.range 9).map _ = [(0, some 41), (1, some 42), (2, some 43), (3, some 44), (4, some 45), (5, some 40), (6, some 46), (7, some 47), (8, some 12)] by kernel_rfl]
          have pd0 : (vs 0) = .agg #[.bool b9, .slice A9 n9 c9, .bool d9, .slice B9 m9 e9] := hΦ 0 (by decide)
          have pd1 : (vs 1) = .agg #[.bool b3, .slice A3 n3 c3, .bool d3, .slice B3 m3 e3] := hΦ 1 (by decide)
          have pd2 : (vs 2) = .agg #[.bool b8, .slice A8 n8 c8, .bool d8, .slice B8 m8 e8] := hΦ 2 (by decide)
          have pd3 : RatRep W15 (vs 3) (x - (((x.floor : Int) : Rat))) := hΦ 3 (by decide)
          have pd4 : TupQ (0) (1 / (x - ((x.floor : Int) : Rat))) (vs 4) W15 := hΦ 4 (by decide)
          have pd5 : TupQ (0) (1 / (x - ((x.floor : Int) : Rat))) (vs 5) W15 := hΦ 5 (by decide)
          have pd6 : FstQ (0) (1 / (x - ((x.floor : Int) : Rat))) (vs 6) W15 := hΦ 6 (by decide)
          have pd7 : (vs 7) = .int .i64 (0) := hΦ 7 (by decide)
          have pd8 : ∃ b, (vs 8) = .pointer (some ⟨b, 0, none⟩) ∧ W14.heap.size ≤ b ∧ Own W15 b 28 [.bool false, .slice none 0 0, .bool false, .slice none 0 0] := hΦ 8 (by decide)
          clear hΦ
          obtain ⟨bpd8, qA8, hlA8, hOA8⟩ := pd8
          simp only [frD, pd0, pd1, pd2, pd7, qA8]
          simp only [Act.put, List.setIfInBounds_toArray, List.set_cons_zero, List.set_cons_succ]
          clear pd0 pd1 pd2 pd7
          generalize vs 3 = Upd3 at pd3 ⊢
          generalize vs 4 = Upd4 at pd4 ⊢
          generalize vs 5 = Upd5 at pd5 ⊢
          generalize vs 6 = Upd6 at pd6 ⊢
          replace S := S.drew.box (S.drew.below hk3) hOA8 hlA8
          clear qA8 hlA8 hOA8
          clear pd3
          clear pd4
          clear pd5
          have hp := FstQ.rep pd6
          obtain ⟨b11, A11, n11, c11, d11, B11, m11, e11, rfl⟩ := hp.open_
          replace S := S.addQ hp
          clear hp pd6
          clear hk3
          have r9_0 := S.c 0 0 rfl rfl
          have f9_0 := S.f 0 0 rfl
          have r9_1 := S.c 0 1 rfl rfl
          have f9_1 := S.f 0 1 rfl
          have r9_2 := S.c 0 2 rfl rfl
          have f9_2 := S.f 0 2 rfl
          have r9_3 := S.c 0 3 rfl rfl
          have f9_3 := S.f 0 3 rfl
          go_upto_region 10 with fail
          replace S := (S.put4 0 rfl rfl rfl (x' := .bool b11) (y' := .slice A11 n11 c11) (z' := .bool d11) (u' := .slice B11 m11 e11))
          obtain ⟨W16, eW, S⟩ := S.pack
          rw [eW]
          clear eW
          clear r9_0 f9_0 r9_1 f9_1 r9_2 f9_2 r9_3 f9_3
          refine wp_region_late 7 10 (m := 9) rfl (by kernel_rfl) (fun iΦ vΦ wΦ => (List.getD [fun vΦ _ => vΦ = .agg #[.bool b9, .slice A9 n9 c9, .bool d9, .slice B9 m9 e9], fun vΦ _ => vΦ = .agg #[.bool b10, .slice A10 n10 c10, .bool d10, .slice B10 m10 e10], fun vΦ _ => vΦ = .agg #[.bool b11, .slice A11 n11 c11, .bool d11, .slice B11 m11 e11], fun vΦ wΦ => RatRep wΦ vΦ (simpR n (1 / (y - ((x.floor : Int) : Rat))) (1 / (x - ((x.floor : Int) : Rat)))), fun vΦ wΦ => TupQ (0) (1 / simpR n (1 / (y - ((x.floor : Int) : Rat))) (1 / (x - ((x.floor : Int) : Rat)))) vΦ wΦ, fun vΦ wΦ => TupQ (0) (1 / simpR n (1 / (y - ((x.floor : Int) : Rat))) (1 / (x - ((x.floor : Int) : Rat)))) vΦ wΦ, fun vΦ wΦ => FstQ (0) (1 / simpR n (1 / (y - ((x.floor : Int) : Rat))) (1 / (x - ((x.floor : Int) : Rat)))) vΦ wΦ, fun vΦ _ => vΦ = .int .i64 (0), fun vΦ wΦ => ∃ b, vΦ = .pointer (some ⟨b, 0, none⟩) ∧ W16.heap.size ≤ b ∧ Own wΦ b 28 [.bool false, .slice none 0 0, .bool false, .slice none 0 0]] iΦ (fun _ _ => True)) vΦ wΦ) [8] (by simp) ?_ ?_ ?_ ?_
          · intro i v w w' _ h hk
            refine stabL_get ?_ i v w w' h hk
            exact stab_cons st_e (stab_cons st_e (stab_cons st_e (stab_cons st_q (stab_cons st_t (stab_cons st_t (stab_cons st_f (stab_cons st_e (stab_cons st_a stab_nil))))))))
          · intro i hi vs w3 hk3 hd
            have S3 := S.drew.below hk3
            have a0 := S3.c 2 0 rfl rfl
            have a1 := S3.c 2 1 rfl rfl
            have a2 := S3.c 2 2 rfl rfl
            have a3 := S3.c 2 3 rfl rfl
            have a4 := S3.c 1 0 rfl rfl
            have a5 := S3.c 1 1 rfl rfl
            have a6 := S3.c 1 2 rfl rfl
            have a7 := S3.c 1 3 rfl rfl
            have a8 := S3.c 0 0 rfl rfl
            have a9 := S3.c 0 1 rfl rfl
            have a10 := S3.c 0 2 rfl rfl
            have a11 := S3.c 0 3 rfl rfl
            match i, hi with
            | 0, _ =>
              refine step_val0 [] (fun vΦ _ => vΦ = .agg #[.bool b9, .slice A9 n9 c9, .bool d9, .slice B9 m9 e9]) rfl (by kernel_rfl) rfl (fun _ _ h => h) rfl fun K hK => ?_; clear hd; simp only [frD] at hK ⊢; go_simp
              exact hK _ _ (Below.refl _ _) rfl
            | 1, _ =>
              refine step_val0 [] (fun vΦ _ => vΦ = .agg #[.bool b10, .slice A10 n10 c10, .bool d10, .slice B10 m10 e10]) rfl (by kernel_rfl) rfl (fun _ _ h => h) rfl fun K hK => ?_; clear hd; simp only [frD] at hK ⊢; go_simp
              exact hK _ _ (Below.refl _ _) rfl
            | 2, _ =>
              refine step_val0 [] (fun vΦ _ => vΦ = .agg #[.bool b11, .slice A11 n11 c11, .bool d11, .slice B11 m11 e11]) rfl (by kernel_rfl) rfl (fun _ _ h => h) rfl fun K hK => ?_; clear hd; simp only [frD] at hK ⊢; go_simp
              exact hK _ _ (Below.refl _ _) rfl
            | 3, _ =>
              have qe1 : (vs 1) = .agg #[.bool b10, .slice A10 n10 c10, .bool d10, .slice B10 m10 e10] := hd 1 (cm (by kernel_rfl)); have qe2 : (vs 2) = .agg #[.bool b11, .slice A11 n11 c11, .bool d11, .slice B11 m11 e11] := hd 2 (cm (by kernel_rfl))
              refine step_call (F := 103) (X := .func (.func 103) #[] #[]) (A := #[(vs 1), (vs 2)]) (B := #[.agg #[.bool b10, .slice A10 n10 c10, .bool d10, .slice B10 m10 e10], .agg #[.bool b11, .slice A11 n11 c11, .bool d11, .slice B11 m11 e11]]) [(1, some 50), (2, some 51)] (fun vΦ wΦ => RatRep wΦ vΦ (simpR n (1 / (y - ((x.floor : Int) : Rat))) (1 / (x - ((x.floor : Int) : Rat))))) rfl (by kernel_rfl) (fun _ _ h => h) rfl (wanted_none rfl) rfl rfl (by kernel_rfl) rfl (by kernel_rfl) (by rw [qe1, qe2]) Tryz.func103 (by kernel_rfl) (by kernel_rfl) ?_
              refine ((IH _ _ _ ((S3.qi 1 rfl).num (by omega)) ((S3.qi 0 rfl).num (by omega)))).mono ?_; rintro e w4 ⟨U, rfl, hr, hk4⟩; exact ⟨_, rfl, hk4, hr⟩
            | 4, _ =>
              have qe0 : (vs 0) = .agg #[.bool b9, .slice A9 n9 c9, .bool d9, .slice B9 m9 e9] := hd 0 (cm (by kernel_rfl)); have h3 : RatRep w3 (vs 3) (simpR n (1 / (y - ((x.floor : Int) : Rat))) (1 / (x - ((x.floor : Int) : Rat)))) := hd 3 (cm (by kernel_rfl))
              refine step_call (F := 58) (X := .func (.func 58) #[] #[]) (A := #[(vs 0), (vs 3)]) (B := #[.agg #[.bool b9, .slice A9 n9 c9, .bool d9, .slice B9 m9 e9], (vs 3)]) [(0, some 49), (3, some 52)] (fun vΦ wΦ => TupQ (0) (1 / simpR n (1 / (y - ((x.floor : Int) : Rat))) (1 / (x - ((x.floor : Int) : Rat)))) vΦ wΦ) rfl (by kernel_rfl) (fun _ _ h => h) rfl (wanted_none rfl) rfl rfl (by kernel_rfl) rfl (by kernel_rfl) (by rw [qe0]) Tryz.func58 (by kernel_rfl) (by kernel_rfl) ?_
              refine ((rcode_eq (gdivide_num ((S3.qi 2 rfl).num (by omega)) (h3.num (by omega))) (divC_pos q1) rfl)).mono ?_; rintro e w4 ⟨U, rfl, hr, hk4⟩; exact ⟨_, rfl, hk4, ⟨U, rfl, hr⟩⟩
            | 5, _ =>
              have h4 : TupQ (0) (1 / simpR n (1 / (y - ((x.floor : Int) : Rat))) (1 / (x - ((x.floor : Int) : Rat)))) (vs 4) w3 := hd 4 (cm (by kernel_rfl)); obtain ⟨Q9, q9, hQ9⟩ := h4
              refine step_val0 [(4, some 53)] (fun vΦ wΦ => TupQ (0) (1 / simpR n (1 / (y - ((x.floor : Int) : Rat))) (1 / (x - ((x.floor : Int) : Rat)))) vΦ wΦ) rfl (by kernel_rfl) rfl (fun _ _ h => h) rfl fun K hK => ?_; clear hd; simp only [frD, q9] at hK ⊢; go_simp
              exact hK _ _ (Below.refl _ _) ⟨Q9, rfl, hQ9⟩
            | 6, _ =>
              have h5 : TupQ (0) (1 / simpR n (1 / (y - ((x.floor : Int) : Rat))) (1 / (x - ((x.floor : Int) : Rat)))) (vs 5) w3 := hd 5 (cm (by kernel_rfl)); obtain ⟨Q9, q9, hQ9⟩ := h5
              refine step_val0 [(5, some 48)] (fun vΦ wΦ => FstQ (0) (1 / simpR n (1 / (y - ((x.floor : Int) : Rat))) (1 / (x - ((x.floor : Int) : Rat)))) vΦ wΦ) rfl (by kernel_rfl) rfl (fun _ _ h => h) rfl fun K hK => ?_; clear hd; simp only [frD, q9] at hK ⊢; go_simp
              exact hK _ _ (Below.refl _ _) hQ9
            | 7, _ =>
              have h5 : TupQ (0) (1 / simpR n (1 / (y - ((x.floor : Int) : Rat))) (1 / (x - ((x.floor : Int) : Rat)))) (vs 5) w3 := hd 5 (cm (by kernel_rfl)); obtain ⟨Q9, q9, hQ9⟩ := h5
              refine step_val0 [(5, some 48)] (fun vΦ _ => vΦ = .int .i64 (0)) rfl (by kernel_rfl) rfl (fun _ _ h => h) rfl fun K hK => ?_; clear hd; simp only [frD, q9] at hK ⊢; go_simp
              exact hK _ _ (Below.refl _ _) rfl
            | 8, _ =>
              refine step_yes [] rfl (by kernel_rfl) fun K hK => ?_; simp only [frD] at hK ⊢; refine ⟨by rfl, ?_⟩; go_simp
              exact hK _ _ ⟨(Below.refl _ _).alloc (Nat.le_refl _) _, ⟨_, rfl, hk3.size, Own.new w3 _ _⟩, fun _ => ⟨rfl, by simp⟩⟩
            | i + 9, hi => exact absurd hi (by omega)
          · intro vs w3 hk3 hd
            have h5 : TupQ (0) (1 / simpR n (1 / (y - ((x.floor : Int) : Rat))) (1 / (x - ((x.floor : Int) : Rat)))) (vs 5) w3 := hd 5 (cm (by kernel_rfl)); obtain ⟨Q9, q9, hQ9⟩ := h5
            refine pure_at (v := .int .i64 0) [(5, some 48)] rfl (by kernel_rfl) (by exact rfl) fun w4 K hK => ?_; simp only [frD, q9] at hK ⊢; refine ⟨by rfl, ?_⟩; go_simp; exact hK
          · intro vs W17 hk3 hΦ _
            simp only [List.drop_succ_cons, List.drop_zero]
            rw [fr_frD, show (List.range 9).map _ = [(0, some 49), (1, some 50), (2, some 51), (3, some 52), (4, some 53), (5, some 48), (6, some 54), (7, some 55), (8, some 14)] by kernel_rfl]
            have pe0 : (vs 0) = .agg #[.bool b9, .slice A9 n9 c9, .bool d9, .slice B9 m9 e9] := hΦ 0 (by decide)
            have pe1 : (vs 1) = .agg #[.bool b10, .slice A10 n10 c10, .bool d10, .slice B10 m10 e10] := hΦ 1 (by decide)
            have pe2 : (vs 2) = .agg #[.bool b11, .slice A11 n11 c11, .bool d11, .slice B11 m11 e11] := hΦ 2 (by decide)
            have pe3 : RatRep W17 (vs 3) (simpR n (1 / (y - ((x.floor : Int) : Rat))) (1 / (x - ((x.floor : Int) : Rat)))) := hΦ 3 (by decide)
            have pe4 : TupQ (0) (1 / simpR n (1 / (y - ((x.floor : Int) : Rat))) (1 / (x - ((x.floor : Int) : Rat)))) (vs 4) W17 := hΦ 4 (by decide)
            have pe5 : TupQ (0) (1 / simpR n (1 / (y - ((x.floor : Int) : Rat))) (1 / (x - ((x.floor : Int) : Rat)))) (vs 5) W17 := hΦ 5 (by decide)
            have pe6 : FstQ (0) (1 / simpR n (1 / (y - ((x.floor : Int) : Rat))) (1 / (x - ((x.floor : Int) : Rat)))) (vs 6) W17 := hΦ 6 (by decide)
            have pe7 : (vs 7) = .int .i64 (0) := hΦ 7 (by decide)
            have pe8 : ∃ b, (vs 8) = .pointer (some ⟨b, 0, none⟩) ∧ W16.heap.size ≤ b ∧ Own W17 b 28 [.bool false, .slice none 0 0, .bool false, .slice none 0 0] := hΦ 8 (by decide)
            clear hΦ
            obtain ⟨bpe8, qA8, hlA8, hOA8⟩ := pe8
            simp only [frD, pe0, pe1, pe2, pe7, qA8]
            simp only [Act.put, List.setIfInBounds_toArray, List.set_cons_zero, List.set_cons_succ]
            clear pe0 pe1 pe2 pe7
            generalize vs 3 = Upe3 at pe3 ⊢
            generalize vs 4 = Upe4 at pe4 ⊢
            generalize vs 5 = Upe5 at pe5 ⊢
            generalize vs 6 = Upe6 at pe6 ⊢
            replace S := S.drew.box (S.drew.below hk3) hOA8 hlA8
            clear qA8 hlA8 hOA8
            clear pe3
            clear pe4
            clear pe5
            have hp := FstQ.rep pe6
            obtain ⟨b12, A12, n12, c12, d12, B12, m12, e12, rfl⟩ := hp.open_
            replace S := S.addQ hp
            clear hp pe6
            clear hk3
            have r10_0 := S.c 0 0 rfl rfl
            have f10_0 := S.f 0 0 rfl
            have r10_1 := S.c 0 1 rfl rfl
            have f10_1 := S.f 0 1 rfl
            have r10_2 := S.c 0 2 rfl rfl
            have f10_2 := S.f 0 2 rfl
            have r10_3 := S.c 0 3 rfl rfl
            have f10_3 := S.f 0 3 rfl
            go_upto_region 11 with fail
            replace S := (S.put4 0 rfl rfl rfl (x' := .bool b12) (y' := .slice A12 n12 c12) (z' := .bool d12) (u' := .slice B12 m12 e12))
            obtain ⟨W18, eW, S⟩ := S.pack
            rw [eW]
            clear eW
            clear r10_0 f10_0 r10_1 f10_1 r10_2 f10_2 r10_3 f10_3
            have r6_0 := S.c 4 0 rfl rfl
            have r6_1 := S.c 4 1 rfl rfl
            have r6_2 := S.c 4 2 rfl rfl
            have r6_3 := S.c 4 3 rfl rfl
            have r10_0 := S.c 0 0 rfl rfl
            have r10_1 := S.c 0 1 rfl rfl
            have r10_2 := S.c 0 2 rfl rfl
            have r10_3 := S.c 0 3 rfl rfl
            go_wp2_with fail
            refine ((gadd_num ((S.qi 4 rfl).num (by omega)) ((S.qi 0 rfl).num (by omega)))).mono ?_
            rintro e W19 ⟨U19, rfl, hp, hk⟩
            obtain ⟨b13, A13, n13, c13, d13, B13, m13, e13, rfl⟩ := hp.open_
            replace S := (S.below hk).addQ hp
            clear hk hp
            clear r6_0 r6_1 r6_2 r6_3 r10_0 r10_1 r10_2 r10_3
            have r2_0 := S.c 8 0 rfl rfl
            have f2_0 := S.f 8 0 rfl
            have r2_1 := S.c 8 1 rfl rfl
            have f2_1 := S.f 8 1 rfl
            have r2_2 := S.c 8 2 rfl rfl
            have f2_2 := S.f 8 2 rfl
            have r2_3 := S.c 8 3 rfl rfl
            have f2_3 := S.f 8 3 rfl
            go_wp2
            replace S := (S.put4 8 rfl rfl rfl (x' := .bool b13) (y' := .slice A13 n13 c13) (z' := .bool d13) (u' := .slice B13 m13 e13))
            refine bodyPost_ret (v := .agg #[.bool b13, .slice A13 n13 c13, .bool d13, .slice B13 m13 e13]) (by simp [results, Tryz.results103, go_sem, S.c 8 0 rfl rfl, S.c 8 1 rfl rfl, S.c 8 2 rfl rfl, S.c 8 3 rfl rfl]) rfl ?_
            exact ⟨_, rfl, by rw [show simpR (n + 1) x y = ((x.floor : Int) : Rat) + 1 / simpR n (1 / (y - ((x.floor : Int) : Rat))) (1 / (x - ((x.floor : Int) : Rat))) from if_neg hc]; exact S.qi 0 rfl, S.k⟩
theorem gsimplest_num (n : Nat) : ∀ (w : World) (V1 V2 : Value) (x y : Rat), RatNum w V1 x → RatNum w V2 y → 0 < x → x ≤ y → x.den + y.den ≤ n → szR x ≤ 20000 → szR y ≤ 20000 →
    Calls Tryz.prog 103 #[V1, V2] w (RGives (simpR n x y) w) := by
  induction n with
  | zero => intro w V1 V2 x y _ _ _ _ h; exact absurd h (by have := x.den_pos; omega)
  | succ n ih =>
    intro w V1 V2 x y h1 h2 hx0 hxy hn zx zy
    by_cases hc : ((x.ceil : Int) : Rat) ≤ y
    · rw [show simpR (n + 1) x y = ((x.ceil : Int) : Rat) from if_pos hc]
      exact gsimplest_up h1 h2 hc zx zy
    · obtain ⟨g1, g2, g3, g4, g5, g6, g7⟩ := simp_step hx0 hxy hn hc rfl
      exact gsimplest_step h1 h2 hx0 hxy hn hc zx zy fun w V1 V2 a b => ih w V1 V2 _ _ a b g3 g4 g5 (by omega) (by omega)
set_option maxRecDepth 100000 in
set_option maxHeartbeats 1000000 in
theorem gsp_order {w : World} {V1 V2 : Value} {x y : Rat} (h1 : RatNum w V1 x) (h2 : RatNum w V2 y) (hxy : y < x) (zx : szR x ≤ 20000) (zy : szR y ≤ 20000) : Calls Tryz.prog 41 #[V1, V2] w (RCode 5 0 w) := by
  obtain ⟨b3, A3, n3, c3, d3, B3, m3, e3, rfl⟩ := h1.open_
  have z0 := h1.sz
  obtain ⟨b4, A4, n4, c4, d4, B4, m4, e4, rfl⟩ := h2.open_
  have z1 := h2.sz
  obtain ⟨s1, hs1⟩ : ∃ s, cmpR x y = s := ⟨_, rfl⟩
  have t1 : decide (0 < s1) = true := by exact decide_eq_true (by rw [← hs1]; exact (cmpR_pos x y).2 hxy)
  have HS1 := Lib.hid hs1
  clear hs1
  have S := (((St.start w).addR h1).addR h2)
  clear h1 h2
  go_enter Tryz.func41, Tryz.ntmps41
  go_upto_region 1 with fail
  replace S := (((S.alloc 28 [.bool b3, .slice A3 n3 c3, .bool d3, .slice B3 m3 e3]).alloc 28 [.bool b4, .slice A4 n4 c4, .bool d4, .slice B4 m4 e4]).alloc 28 [.bool false, .slice none 0 0, .bool false, .slice none 0 0])
  simp only [World.size_alloc] at S
  obtain ⟨W1, eW, S⟩ := S.pack
  rw [eW]
  clear eW
  have r0_0 := S.c 2 0 rfl rfl
  have r0_1 := S.c 2 1 rfl rfl
  have r0_2 := S.c 2 2 rfl rfl
  have r0_3 := S.c 2 3 rfl rfl
  have r1_0 := S.c 1 0 rfl rfl
  have r1_1 := S.c 1 1 rfl rfl
  have r1_2 := S.c 1 2 rfl rfl
  have r1_3 := S.c 1 3 rfl rfl
  go_wp2_with fail
  refine ((gcompare_s (S.ri 1 rfl) (S.ri 0 rfl) (by omega) HS1.out)).mono ?_
  rintro e W2 ⟨rfl, hk⟩
  replace S := S.below hk
  clear hk
  clear r0_0 r0_1 r0_2 r0_3 r1_0 r1_1 r1_2 r1_3
  have r2_0 := S.c 0 0 rfl rfl
  have f2_0 := S.f 0 0 rfl
  have r2_1 := S.c 0 1 rfl rfl
  have f2_1 := S.f 0 1 rfl
  have r2_2 := S.c 0 2 rfl rfl
  have f2_2 := S.f 0 2 rfl
  have r2_3 := S.c 0 3 rfl rfl
  have f2_3 := S.f 0 3 rfl
  go_wp2
  replace S := (S.put4 0 rfl rfl rfl (x' := .bool false) (y' := .slice none 0 0) (z' := .bool false) (u' := .slice none 0 0))
  refine bodyPost_ret (v := .tuple #[.agg #[.bool false, .slice none 0 0, .bool false, .slice none 0 0], .int .i64 5]) (by simp [results, Tryz.results41, go_sem, S.c 0 0 rfl rfl, S.c 0 1 rfl rfl, S.c 0 2 rfl rfl, S.c 0 3 rfl rfl]) rfl ?_
  exact ⟨_, rfl, by rw [if_neg (by decide)]; rfl, S.k⟩
set_option maxRecDepth 100000 in
set_option maxHeartbeats 1000000 in
theorem gsp_zero {w : World} {V1 V2 : Value} {x y : Rat} (h1 : RatNum w V1 x) (h2 : RatNum w V2 y) (hxy : x ≤ y) (hx : ¬ 0 < x) (hy : ¬ y < 0) (zx : szR x ≤ 20000) (zy : szR y ≤ 20000) : Calls Tryz.prog 41 #[V1, V2] w (RCode 0 (simV x y) w) := by
  obtain ⟨b3, A3, n3, c3, d3, B3, m3, e3, rfl⟩ := h1.open_
  have z0 := h1.sz
  obtain ⟨b4, A4, n4, c4, d4, B4, m4, e4, rfl⟩ := h2.open_
  have z1 := h2.sz
  have y0 := szR_int 0
  obtain ⟨s1, hs1⟩ : ∃ s, cmpR x y = s := ⟨_, rfl⟩
  obtain ⟨s2, hs2⟩ : ∃ s, x.num.sign = s := ⟨_, rfl⟩
  obtain ⟨s3, hs3⟩ : ∃ s, y.num.sign = s := ⟨_, rfl⟩
  have t1 : decide (0 < s1) = false := by exact decide_eq_false (by rw [← hs1]; have := (cmpR_le x y).2 hxy; omega)
  have t2 : decide (s2 ≤ 0) = true := by exact decide_eq_true (by rw [← hs2]; have : ¬ 0 < x.num.sign := fun h => hx ((rsgn_pos x).1 h); omega)
  have t3 : decide (0 ≤ s3) = true := by exact decide_eq_true (by rw [← hs3]; have : ¬ y.num.sign < 0 := fun h => hy ((rsgn_neg y).1 h); omega)
  have HS1 := Lib.hid hs1
  clear hs1
  have HS2 := Lib.hid hs2
  clear hs2
  have HS3 := Lib.hid hs3
  clear hs3
  have S := (((St.start w).addR h1).addR h2)
  clear h1 h2
  go_enter Tryz.func41, Tryz.ntmps41
  go_upto_region 1 with fail
  replace S := (((S.alloc 28 [.bool b3, .slice A3 n3 c3, .bool d3, .slice B3 m3 e3]).alloc 28 [.bool b4, .slice A4 n4 c4, .bool d4, .slice B4 m4 e4]).alloc 28 [.bool false, .slice none 0 0, .bool false, .slice none 0 0])
  simp only [World.size_alloc] at S
  obtain ⟨W1, eW, S⟩ := S.pack
  rw [eW]
  clear eW
  have r0_0 := S.c 2 0 rfl rfl
  have r0_1 := S.c 2 1 rfl rfl
  have r0_2 := S.c 2 2 rfl rfl
  have r0_3 := S.c 2 3 rfl rfl
  have r1_0 := S.c 1 0 rfl rfl
  have r1_1 := S.c 1 1 rfl rfl
  have r1_2 := S.c 1 2 rfl rfl
  have r1_3 := S.c 1 3 rfl rfl
  go_wp2_with fail
  refine ((gcompare_s (S.ri 1 rfl) (S.ri 0 rfl) (by omega) HS1.out)).mono ?_
  rintro e W2 ⟨rfl, hk⟩
  replace S := S.below hk
  clear hk
  clear r0_0 r0_1 r0_2 r0_3 r1_0 r1_1 r1_2 r1_3
  have r0_0 := S.c 2 0 rfl rfl
  have r0_1 := S.c 2 1 rfl rfl
  have r0_2 := S.c 2 2 rfl rfl
  have r0_3 := S.c 2 3 rfl rfl
  go_wp2_with fail
  refine ((gsign_s (S.ri 1 rfl) HS2.out)).mono ?_
  rintro e W3 ⟨rfl, hk⟩
  replace S := S.below hk
  clear hk
  clear r0_0 r0_1 r0_2 r0_3
  have r1_0 := S.c 1 0 rfl rfl
  have r1_1 := S.c 1 1 rfl rfl
  have r1_2 := S.c 1 2 rfl rfl
  have r1_3 := S.c 1 3 rfl rfl
  go_wp2_with fail
  refine ((gsign_s (S.ri 0 rfl) HS3.out)).mono ?_
  rintro e W4 ⟨rfl, hk⟩
  replace S := S.below hk
  clear hk
  clear r1_0 r1_1 r1_2 r1_3
  go_wp2_with fail
  refine ((gwhole_num 0 (by omega) (by omega))).mono ?_
  rintro e W5 ⟨U5, rfl, hp, hk⟩
  obtain ⟨b5, A5, n5, c5, d5, B5, m5, e5, rfl⟩ := hp.open_
  replace S := (S.below hk).addQ hp
  clear hk hp
  have r2_0 := S.c 0 0 rfl rfl
  have f2_0 := S.f 0 0 rfl
  have r2_1 := S.c 0 1 rfl rfl
  have f2_1 := S.f 0 1 rfl
  have r2_2 := S.c 0 2 rfl rfl
  have f2_2 := S.f 0 2 rfl
  have r2_3 := S.c 0 3 rfl rfl
  have f2_3 := S.f 0 3 rfl
  go_wp2
  replace S := (S.put4 0 rfl rfl rfl (x' := .bool b5) (y' := .slice A5 n5 c5) (z' := .bool d5) (u' := .slice B5 m5 e5))
  refine bodyPost_ret (v := .tuple #[.agg #[.bool b5, .slice A5 n5 c5, .bool d5, .slice B5 m5 e5], .int .i64 0]) (by simp [results, Tryz.results41, go_sem, S.c 0 0 rfl rfl, S.c 0 1 rfl rfl, S.c 0 2 rfl rfl, S.c 0 3 rfl rfl]) rfl ?_
  exact ⟨_, rfl, by rw [if_pos rfl, simV_zero hx hy]; exact S.qi 0 rfl, S.k⟩
set_option maxRecDepth 100000 in
set_option maxHeartbeats 1000000 in
theorem gsp_neg {w : World} {V1 V2 : Value} {x y : Rat} (h1 : RatNum w V1 x) (h2 : RatNum w V2 y) (hxy : x ≤ y) (hy : y < 0) (zx : szR x ≤ 20000) (zy : szR y ≤ 20000) : Calls Tryz.prog 41 #[V1, V2] w (RCode 0 (simV x y) w) := by
  obtain ⟨b3, A3, n3, c3, d3, B3, m3, e3, rfl⟩ := h1.open_
  have z0 := h1.sz
  obtain ⟨b4, A4, n4, c4, d4, B4, m4, e4, rfl⟩ := h2.open_
  have z1 := h2.sz
  have hx : ¬ 0 < x := by grind
  obtain ⟨g1, g2, g3⟩ : 0 < -y ∧ -y ≤ -x ∧ (-y).den + (-x).den ≤ y.den + x.den := ⟨by grind, by grind, by rw [Rat.neg_den, Rat.neg_den]; exact Nat.le_refl _⟩
  obtain ⟨u1, u2⟩ : szR (-y) ≤ 20000 ∧ szR (-x) ≤ 20000 := ⟨by rw [szR_neg]; exact zy, by rw [szR_neg]; exact zx⟩
  have u3 := Nat.le_trans (simp_pos g1 g2 g3).2 u1
  have y0 := Nat.le_of_eq (szR_neg y)
  have y1 := Nat.le_of_eq (szR_neg x)
  have y2 := Nat.le_of_eq (szR_neg (simpR (y.den + x.den) (-y) (-x)))
  obtain ⟨s1, hs1⟩ : ∃ s, cmpR x y = s := ⟨_, rfl⟩
  obtain ⟨s2, hs2⟩ : ∃ s, x.num.sign = s := ⟨_, rfl⟩
  obtain ⟨s3, hs3⟩ : ∃ s, y.num.sign = s := ⟨_, rfl⟩
  have t1 : decide (0 < s1) = false := by exact decide_eq_false (by rw [← hs1]; have := (cmpR_le x y).2 hxy; omega)
  have t2 : decide (s2 ≤ 0) = true := by exact decide_eq_true (by rw [← hs2]; have : ¬ 0 < x.num.sign := fun h => hx ((rsgn_pos x).1 h); omega)
  have t3 : decide (0 ≤ s3) = false := by exact decide_eq_false (by rw [← hs3]; have := (rsgn_neg y).2 hy; omega)
  have t4 : decide (s3 < 0) = true := by exact decide_eq_true (by rw [← hs3]; exact (rsgn_neg y).2 hy)
  have HS1 := Lib.hid hs1
  clear hs1
  have HS2 := Lib.hid hs2
  clear hs2
  have HS3 := Lib.hid hs3
  clear hs3
  have S := (((St.start w).addR h1).addR h2)
  clear h1 h2
  go_enter Tryz.func41, Tryz.ntmps41
  go_upto_region 1 with fail
  replace S := (((S.alloc 28 [.bool b3, .slice A3 n3 c3, .bool d3, .slice B3 m3 e3]).alloc 28 [.bool b4, .slice A4 n4 c4, .bool d4, .slice B4 m4 e4]).alloc 28 [.bool false, .slice none 0 0, .bool false, .slice none 0 0])
  simp only [World.size_alloc] at S
  obtain ⟨W1, eW, S⟩ := S.pack
  rw [eW]
  clear eW
  have r0_0 := S.c 2 0 rfl rfl
  have r0_1 := S.c 2 1 rfl rfl
  have r0_2 := S.c 2 2 rfl rfl
  have r0_3 := S.c 2 3 rfl rfl
  have r1_0 := S.c 1 0 rfl rfl
  have r1_1 := S.c 1 1 rfl rfl
  have r1_2 := S.c 1 2 rfl rfl
  have r1_3 := S.c 1 3 rfl rfl
  go_wp2_with fail
  refine ((gcompare_s (S.ri 1 rfl) (S.ri 0 rfl) (by omega) HS1.out)).mono ?_
  rintro e W2 ⟨rfl, hk⟩
  replace S := S.below hk
  clear hk
  clear r0_0 r0_1 r0_2 r0_3 r1_0 r1_1 r1_2 r1_3
  have r0_0 := S.c 2 0 rfl rfl
  have r0_1 := S.c 2 1 rfl rfl
  have r0_2 := S.c 2 2 rfl rfl
  have r0_3 := S.c 2 3 rfl rfl
  go_wp2_with fail
  refine ((gsign_s (S.ri 1 rfl) HS2.out)).mono ?_
  rintro e W3 ⟨rfl, hk⟩
  replace S := S.below hk
  clear hk
  clear r0_0 r0_1 r0_2 r0_3
  have r1_0 := S.c 1 0 rfl rfl
  have r1_1 := S.c 1 1 rfl rfl
  have r1_2 := S.c 1 2 rfl rfl
  have r1_3 := S.c 1 3 rfl rfl
  go_wp2_with fail
  refine ((gsign_s (S.ri 0 rfl) HS3.out)).mono ?_
  rintro e W4 ⟨rfl, hk⟩
  replace S := S.below hk
  clear hk
  clear r1_0 r1_1 r1_2 r1_3
  have r1_0 := S.c 1 0 rfl rfl
  have r1_1 := S.c 1 1 rfl rfl
  have r1_2 := S.c 1 2 rfl rfl
  have r1_3 := S.c 1 3 rfl rfl
  go_wp2_with fail
  refine ((gsign_s (S.ri 0 rfl) HS3.out)).mono ?_
  rintro e W5 ⟨rfl, hk⟩
  replace S := S.below hk
  clear hk
  clear r1_0 r1_1 r1_2 r1_3
  go_upto_region 6 with fail
  refine wp_region_steps (m := 6) rfl (by kernel_rfl) (fun iΦ vΦ wΦ => (List.getD [fun vΦ _ => vΦ = .agg #[.bool b4, .slice A4 n4 c4, .bool d4, .slice B4 m4 e4], fun vΦ wΦ => RatRep wΦ vΦ (-y), fun vΦ _ => vΦ = .agg #[.bool b3, .slice A3 n3 c3, .bool d3, .slice B3 m3 e3], fun vΦ wΦ => RatRep wΦ vΦ (-x), fun vΦ wΦ => RatRep wΦ vΦ (simpR (y.den + x.den) (-y) (-x)), fun vΦ wΦ => RatRep wΦ vΦ (-(simpR (y.den + x.den) (-y) (-x)))] iΦ (fun _ _ => True)) vΦ wΦ) [] ?_ ?_ ?_
  · intro i v w w' _ h hk
    refine stabL_get ?_ i v w w' h hk
    exact stab_cons st_e (stab_cons st_q (stab_cons st_e (stab_cons st_q (stab_cons st_q (stab_cons st_q stab_nil)))))
  · intro i hi vs w3 hk3 hd
    have S3 := S.drew.below hk3
    have a0 := S3.c 2 0 rfl rfl
    have a1 := S3.c 2 1 rfl rfl
    have a2 := S3.c 2 2 rfl rfl
    have a3 := S3.c 2 3 rfl rfl
    have a4 := S3.c 1 0 rfl rfl
    have a5 := S3.c 1 1 rfl rfl
    have a6 := S3.c 1 2 rfl rfl
    have a7 := S3.c 1 3 rfl rfl
    match i, hi with
    | 0, _ =>
      refine step_val0 [] (fun vΦ _ => vΦ = .agg #[.bool b4, .slice A4 n4 c4, .bool d4, .slice B4 m4 e4]) rfl (by kernel_rfl) rfl (fun _ _ h => h) rfl fun K hK => ?_; clear hd; simp only [frD] at hK ⊢; go_simp
      exact hK _ _ (Below.refl _ _) rfl
    | 1, _ =>
      have qe0 : (vs 0) = .agg #[.bool b4, .slice A4 n4 c4, .bool d4, .slice B4 m4 e4] := hd 0 (cm (by kernel_rfl))
      refine step_call (F := 63) (X := .func (.func 63) #[] #[]) (A := #[(vs 0)]) (B := #[.agg #[.bool b4, .slice A4 n4 c4, .bool d4, .slice B4 m4 e4]]) [(0, some 23)] (fun vΦ wΦ => RatRep wΦ vΦ (-y)) rfl (by kernel_rfl) (fun _ _ h => h) rfl (wanted_none rfl) rfl rfl (by kernel_rfl) rfl (by kernel_rfl) (by rw [qe0]) Tryz.func63 (by kernel_rfl) (by kernel_rfl) ?_
      refine ((gneg_num (S3.ri 0 rfl))).mono ?_; rintro e w4 ⟨U, rfl, hr, hk4⟩; exact ⟨_, rfl, hk4, hr⟩
    | 2, _ =>
      refine step_val0 [] (fun vΦ _ => vΦ = .agg #[.bool b3, .slice A3 n3 c3, .bool d3, .slice B3 m3 e3]) rfl (by kernel_rfl) rfl (fun _ _ h => h) rfl fun K hK => ?_; clear hd; simp only [frD] at hK ⊢; go_simp
      exact hK _ _ (Below.refl _ _) rfl
    | 3, _ =>
      have h1 : RatRep w3 (vs 1) (-y) := hd 1 (cm (by kernel_rfl)); have qe2 : (vs 2) = .agg #[.bool b3, .slice A3 n3 c3, .bool d3, .slice B3 m3 e3] := hd 2 (cm (by kernel_rfl))
      refine step_call (F := 63) (X := .func (.func 63) #[] #[]) (A := #[(vs 2)]) (B := #[.agg #[.bool b3, .slice A3 n3 c3, .bool d3, .slice B3 m3 e3]]) [(1, some 24), (2, some 25)] (fun vΦ wΦ => RatRep wΦ vΦ (-x)) rfl (by kernel_rfl) (fun _ _ h => h) rfl (wanted_none rfl) rfl rfl (by kernel_rfl) rfl (by kernel_rfl) (by rw [qe2]) Tryz.func63 (by kernel_rfl) (by kernel_rfl) ?_
      refine ((gneg_num (S3.ri 1 rfl))).mono ?_; rintro e w4 ⟨U, rfl, hr, hk4⟩; exact ⟨_, rfl, hk4, hr⟩
    | 4, _ =>
      have h1 : RatRep w3 (vs 1) (-y) := hd 1 (cm (by kernel_rfl)); have h3 : RatRep w3 (vs 3) (-x) := hd 3 (cm (by kernel_rfl))
      refine step_call (F := 103) (X := .func (.func 103) #[] #[]) (A := #[(vs 1), (vs 3)]) (B := #[(vs 1), (vs 3)]) [(1, some 24), (3, some 26)] (fun vΦ wΦ => RatRep wΦ vΦ (simpR (y.den + x.den) (-y) (-x))) rfl (by kernel_rfl) (fun _ _ h => h) rfl (wanted_none rfl) rfl rfl (by kernel_rfl) rfl (by kernel_rfl) rfl Tryz.func103 (by kernel_rfl) (by kernel_rfl) ?_
      refine ((gsimplest_num (y.den + x.den) _ _ _ (-y) (-x) (h1.num (by omega)) (h3.num (by omega)) g1 g2 g3 u1 u2)).mono ?_; rintro e w4 ⟨U, rfl, hr, hk4⟩; exact ⟨_, rfl, hk4, hr⟩
    | 5, _ =>
      have h4 : RatRep w3 (vs 4) (simpR (y.den + x.den) (-y) (-x)) := hd 4 (cm (by kernel_rfl))
      refine step_call (F := 63) (X := .func (.func 63) #[] #[]) (A := #[(vs 4)]) (B := #[(vs 4)]) [(4, some 27)] (fun vΦ wΦ => RatRep wΦ vΦ (-(simpR (y.den + x.den) (-y) (-x)))) rfl (by kernel_rfl) (fun _ _ h => h) rfl (wanted_none rfl) rfl rfl (by kernel_rfl) rfl (by kernel_rfl) rfl Tryz.func63 (by kernel_rfl) (by kernel_rfl) ?_
      refine ((gneg_num (h4.num (by omega)))).mono ?_; rintro e w4 ⟨U, rfl, hr, hk4⟩; exact ⟨_, rfl, hk4, hr⟩
    | i + 6, hi => exact absurd hi (by omega)
  · intro vs W6 hk3 hΦ _
    simp only [List.drop_succ_cons, List.drop_zero]
    rw [fr_frD, show (List.range 6).map _ = [(0, some 23), (1, some 24), (2, some 25), (3, some 26), (4, some 27), (5, some 28)] by kernel_rfl]
    have pa0 : (vs 0) = .agg #[.bool b4, .slice A4 n4 c4, .bool d4, .slice B4 m4 e4] := hΦ 0 (by decide)
    have pa1 : RatRep W6 (vs 1) (-y) := hΦ 1 (by decide)
    have pa2 : (vs 2) = .agg #[.bool b3, .slice A3 n3 c3, .bool d3, .slice B3 m3 e3] := hΦ 2 (by decide)
    have pa3 : RatRep W6 (vs 3) (-x) := hΦ 3 (by decide)
    have pa4 : RatRep W6 (vs 4) (simpR (y.den + x.den) (-y) (-x)) := hΦ 4 (by decide)
    have pa5 : RatRep W6 (vs 5) (-(simpR (y.den + x.den) (-y) (-x))) := hΦ 5 (by decide)
    clear hΦ
    simp only [frD, pa0, pa2]
    simp only [Act.put, List.setIfInBounds_toArray, List.set_cons_zero, List.set_cons_succ]
    clear pa0 pa2
    generalize vs 1 = Upa1 at pa1 ⊢
    generalize vs 3 = Upa3 at pa3 ⊢
    generalize vs 4 = Upa4 at pa4 ⊢
    generalize vs 5 = Upa5 at pa5 ⊢
    replace S := S.drew.below hk3
    clear pa1
    clear pa3
    clear pa4
    obtain ⟨b5, A5, n5, c5, d5, B5, m5, e5, rfl⟩ := pa5.open_
    replace S := S.addQ pa5
    clear pa5
    clear hk3
    have r2_0 := S.c 0 0 rfl rfl
    have f2_0 := S.f 0 0 rfl
    have r2_1 := S.c 0 1 rfl rfl
    have f2_1 := S.f 0 1 rfl
    have r2_2 := S.c 0 2 rfl rfl
    have f2_2 := S.f 0 2 rfl
    have r2_3 := S.c 0 3 rfl rfl
    have f2_3 := S.f 0 3 rfl
    go_wp2
    replace S := (S.put4 0 rfl rfl rfl (x' := .bool b5) (y' := .slice A5 n5 c5) (z' := .bool d5) (u' := .slice B5 m5 e5))
    refine bodyPost_ret (v := .tuple #[.agg #[.bool b5, .slice A5 n5 c5, .bool d5, .slice B5 m5 e5], .int .i64 0]) (by simp [results, Tryz.results41, go_sem, S.c 0 0 rfl rfl, S.c 0 1 rfl rfl, S.c 0 2 rfl rfl, S.c 0 3 rfl rfl]) rfl ?_
    exact ⟨_, rfl, by rw [if_pos rfl, simV_neg hx hy]; exact S.qi 0 rfl, S.k⟩
set_option maxRecDepth 100000 in
set_option maxHeartbeats 1000000 in
theorem gsp_pos {w : World} {V1 V2 : Value} {x y : Rat} (h1 : RatNum w V1 x) (h2 : RatNum w V2 y) (hxy : x ≤ y) (hx : 0 < x) (zx : szR x ≤ 20000) (zy : szR y ≤ 20000) : Calls Tryz.prog 41 #[V1, V2] w (RCode 0 (simV x y) w) := by
  obtain ⟨b3, A3, n3, c3, d3, B3, m3, e3, rfl⟩ := h1.open_
  have z0 := h1.sz
  obtain ⟨b4, A4, n4, c4, d4, B4, m4, e4, rfl⟩ := h2.open_
  have z1 := h2.sz
  have hy : 0 < y := by grind
  obtain ⟨s1, hs1⟩ : ∃ s, cmpR x y = s := ⟨_, rfl⟩
  obtain ⟨s2, hs2⟩ : ∃ s, x.num.sign = s := ⟨_, rfl⟩
  obtain ⟨s3, hs3⟩ : ∃ s, y.num.sign = s := ⟨_, rfl⟩
  have t1 : decide (0 < s1) = false := by exact decide_eq_false (by rw [← hs1]; have := (cmpR_le x y).2 hxy; omega)
  have t2 : decide (s2 ≤ 0) = false := by exact decide_eq_false (by rw [← hs2]; have := (rsgn_pos x).2 hx; omega)
  have t3 : decide (s3 < 0) = false := by exact decide_eq_false (by rw [← hs3]; have := (rsgn_pos y).2 hy; omega)
  have HS1 := Lib.hid hs1
  clear hs1
  have HS2 := Lib.hid hs2
  clear hs2
  have HS3 := Lib.hid hs3
  clear hs3
  have S := (((St.start w).addR h1).addR h2)
  clear h1 h2
  go_enter Tryz.func41, Tryz.ntmps41
  go_upto_region 1 with fail
  replace S := (((S.alloc 28 [.bool b3, .slice A3 n3 c3, .bool d3, .slice B3 m3 e3]).alloc 28 [.bool b4, .slice A4 n4 c4, .bool d4, .slice B4 m4 e4]).alloc 28 [.bool false, .slice none 0 0, .bool false, .slice none 0 0])
  simp only [World.size_alloc] at S
  obtain ⟨W1, eW, S⟩ := S.pack
  rw [eW]
  clear eW
  have r0_0 := S.c 2 0 rfl rfl
  have r0_1 := S.c 2 1 rfl rfl
  have r0_2 := S.c 2 2 rfl rfl
  have r0_3 := S.c 2 3 rfl rfl
  have r1_0 := S.c 1 0 rfl rfl
  have r1_1 := S.c 1 1 rfl rfl
  have r1_2 := S.c 1 2 rfl rfl
  have r1_3 := S.c 1 3 rfl rfl
  go_wp2_with fail
  refine ((gcompare_s (S.ri 1 rfl) (S.ri 0 rfl) (by omega) HS1.out)).mono ?_
  rintro e W2 ⟨rfl, hk⟩
  replace S := S.below hk
  clear hk
  clear r0_0 r0_1 r0_2 r0_3 r1_0 r1_1 r1_2 r1_3
  have r0_0 := S.c 2 0 rfl rfl
  have r0_1 := S.c 2 1 rfl rfl
  have r0_2 := S.c 2 2 rfl rfl
  have r0_3 := S.c 2 3 rfl rfl
  go_wp2_with fail
  refine ((gsign_s (S.ri 1 rfl) HS2.out)).mono ?_
  rintro e W3 ⟨rfl, hk⟩
  replace S := S.below hk
  clear hk
  clear r0_0 r0_1 r0_2 r0_3
  have r1_0 := S.c 1 0 rfl rfl
  have r1_1 := S.c 1 1 rfl rfl
  have r1_2 := S.c 1 2 rfl rfl
  have r1_3 := S.c 1 3 rfl rfl
  go_wp2_with fail
  refine ((gsign_s (S.ri 0 rfl) HS3.out)).mono ?_
  rintro e W4 ⟨rfl, hk⟩
  replace S := S.below hk
  clear hk
  clear r1_0 r1_1 r1_2 r1_3
  have r0_0 := S.c 2 0 rfl rfl
  have r0_1 := S.c 2 1 rfl rfl
  have r0_2 := S.c 2 2 rfl rfl
  have r0_3 := S.c 2 3 rfl rfl
  have r1_0 := S.c 1 0 rfl rfl
  have r1_1 := S.c 1 1 rfl rfl
  have r1_2 := S.c 1 2 rfl rfl
  have r1_3 := S.c 1 3 rfl rfl
  go_wp2_with fail
  refine ((gsimplest_num (x.den + y.den) _ _ _ x y (S.ri 1 rfl) (S.ri 0 rfl) hx hxy (Nat.le_refl _) zx zy)).mono ?_
  rintro e W5 ⟨U5, rfl, hp, hk⟩
  obtain ⟨b5, A5, n5, c5, d5, B5, m5, e5, rfl⟩ := hp.open_
  replace S := (S.below hk).addQ hp
  clear hk hp
  clear r0_0 r0_1 r0_2 r0_3 r1_0 r1_1 r1_2 r1_3
  have r2_0 := S.c 0 0 rfl rfl
  have f2_0 := S.f 0 0 rfl
  have r2_1 := S.c 0 1 rfl rfl
  have f2_1 := S.f 0 1 rfl
  have r2_2 := S.c 0 2 rfl rfl
  have f2_2 := S.f 0 2 rfl
  have r2_3 := S.c 0 3 rfl rfl
  have f2_3 := S.f 0 3 rfl
  go_wp2
  replace S := (S.put4 0 rfl rfl rfl (x' := .bool b5) (y' := .slice A5 n5 c5) (z' := .bool d5) (u' := .slice B5 m5 e5))
  refine bodyPost_ret (v := .tuple #[.agg #[.bool b5, .slice A5 n5 c5, .bool d5, .slice B5 m5 e5], .int .i64 0]) (by simp [results, Tryz.results41, go_sem, S.c 0 0 rfl rfl, S.c 0 1 rfl rfl, S.c 0 2 rfl rfl, S.c 0 3 rfl rfl]) rfl ?_
  exact ⟨_, rfl, by rw [if_pos rfl, simV_pos hx]; exact S.qi 0 rfl, S.k⟩
theorem gsimpl_ok {w : World} {V1 V2 : Value} {x y : Rat} (h1 : RatNum w V1 x) (h2 : RatNum w V2 y) (h : x ≤ y) (zx : szR x ≤ 20000) (zy : szR y ≤ 20000) : Calls Tryz.prog 41 #[V1, V2] w (RCode 0 (simV x y) w) := by
  by_cases hx : 0 < x
  · exact gsp_pos h1 h2 h hx zx zy
  · by_cases hy : y < 0
    · exact gsp_neg h1 h2 h hy zx zy
    · exact gsp_zero h1 h2 h hx hy zx zy
end Go.Proofs.YtmochehkkadjnaaGreatDoor
