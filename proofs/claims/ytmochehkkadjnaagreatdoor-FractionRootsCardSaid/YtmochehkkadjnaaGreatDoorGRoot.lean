/- The walks of the reference's Root. -/
import Derived.Test.YtmochehkkadjnaaGreatDoorGRound
namespace Go.Proofs.YtmochehkkadjnaaGreatDoor
open Go.RowKit Go.Shelf

theorem groot_rep {w : World} {V : Value} {z : Int} {r : Nat} (h : IntRep w V z) (hr : IsRoot z r) (h0 : 0 ≤ z) (hl : lenI z ≤ 200) : Calls Tryz.prog 99 #[V] w fun e w' => ∃ Q, e = .returned (.tuple #[Q, .int .i64 0]) ∧ IntRep w' Q (r : Int) ∧ Keeps w w' := by
  have := rroot_any _ _ V w h.arg hl
  rw [cnt_rep] at this
  refine this.mono ?_
  rintro e w' ⟨Q, s, rfl, hq, hs, hk⟩
  obtain rfl := root_unique hs hr
  exact ⟨Q, by rw [if_neg (by omega)], hq, hk⟩
theorem groot_sizes {x : Rat} {k P : Int} {r : Nat} (h0 : 0 ≤ k) (hk1 : k ≤ 512) (hP : (2 : Int) ^ k.toNat = P) (hx : ¬ x < 0) (zx : szR x ≤ 60) (hr : IsRoot (x * ((P : Rat) * (P : Rat))).floor r) :
    szR (P : Rat) ≤ 18 ∧ szR ((P : Rat) * (P : Rat)) ≤ 36 ∧ szR (x * ((P : Rat) * (P : Rat))) ≤ 96 ∧ lenI (r : Int) ≤ 98 ∧ lenI ((r : Int) + 1) ≤ 99 ∧ szR (Rat.divInt (r : Int) P) ≤ 98 ∧ 0 ≤ (x * ((P : Rat) * (P : Rat))).floor ∧ lenI (x * ((P : Rat) * (P : Rat))).floor ≤ 98 := by
  have h1 := lenI_pow2 h0 hk1 hP
  have h3 := szR_int P
  have h4 := szR_mul (P : Rat) (P : Rat)
  have h5 := szR_mul x ((P : Rat) * (P : Rat))
  have hPP : 0 < P := by rw [← hP]; exact Int.pow_pos (by decide)
  have hy : 0 ≤ x * ((P : Rat) * (P : Rat)) := by
    have a : (0 : Rat) < (P : Rat) := by rw [← Rat.intCast_zero]; exact Rat.intCast_lt_intCast.2 hPP
    exact Rat.mul_nonneg (Rat.not_lt.1 hx) (Rat.mul_nonneg (Rat.le_of_lt a) (Rat.le_of_lt a))
  have hf : 0 ≤ (x * ((P : Rat) * (P : Rat))).floor := Rat.le_floor_iff.2 (by rw [Rat.intCast_zero]; exact hy)
  have h6 := isRoot_len hf hr
  have h7 := len_floor (x * ((P : Rat) * (P : Rat)))
  have h8 := szR_divInt (r : Int) P (by omega)
  have h9 := lenI_add (r : Int) 1
  have h10 := lenI_one
  exact ⟨by omega, by omega, by omega, by omega, by omega, by omega, hf, by omega⟩
set_option maxRecDepth 100000 in
set_option maxHeartbeats 1000000 in
theorem groot_bad {w : World} {V1 : Value} {x : Rat} {k : Int} (h1 : RatNum w V1 x) (hk0 : k < 0 ∨ 512 < k) : Calls Tryz.prog 38 #[V1, .int .i64 k] w (fun e w' => e = .returned (.tuple #[zeroRat, zeroRat, .int .i64 2]) ∧ Keeps w w') := by
  obtain ⟨b3, A3, n3, c3, d3, B3, m3, e3, rfl⟩ := h1.open_
  have z0 := h1.sz
  have S := ((St.start w).addR h1)
  clear h1
  go_enter Tryz.func38, Tryz.ntmps38
  go_upto_region 1 with fail
  replace S := (((S.alloc 28 [.bool b3, .slice A3 n3 c3, .bool d3, .slice B3 m3 e3]).alloc 28 [.bool false, .slice none 0 0, .bool false, .slice none 0 0]).alloc 28 [.bool false, .slice none 0 0, .bool false, .slice none 0 0])
  simp only [World.size_alloc] at S
  obtain ⟨W1, eW, S⟩ := S.pack
  rw [eW]
  clear eW
  go_wp2_with fail
  refine ((gplaces_bad hk0)).mono ?_
  rintro e W2 ⟨rfl, hk⟩
  replace S := S.below hk
  clear hk
  have r1_0 := S.c 1 0 rfl rfl
  have f1_0 := S.f 1 0 rfl
  have r1_1 := S.c 1 1 rfl rfl
  have f1_1 := S.f 1 1 rfl
  have r1_2 := S.c 1 2 rfl rfl
  have f1_2 := S.f 1 2 rfl
  have r1_3 := S.c 1 3 rfl rfl
  have f1_3 := S.f 1 3 rfl
  have r2_0 := S.c 0 0 rfl rfl
  have f2_0 := S.f 0 0 rfl
  have r2_1 := S.c 0 1 rfl rfl
  have f2_1 := S.f 0 1 rfl
  have r2_2 := S.c 0 2 rfl rfl
  have f2_2 := S.f 0 2 rfl
  have r2_3 := S.c 0 3 rfl rfl
  have f2_3 := S.f 0 3 rfl
  go_wp2
  replace S := ((S.put4 1 rfl rfl rfl (x' := .bool false) (y' := .slice none 0 0) (z' := .bool false) (u' := .slice none 0 0)).put4 0 rfl rfl rfl (x' := .bool false) (y' := .slice none 0 0) (z' := .bool false) (u' := .slice none 0 0))
  refine bodyPost_ret (v := .tuple #[.agg #[.bool false, .slice none 0 0, .bool false, .slice none 0 0], .agg #[.bool false, .slice none 0 0, .bool false, .slice none 0 0], .int .i64 2]) (by simp [results, Tryz.results38, go_sem, S.c 1 0 rfl rfl, S.c 1 1 rfl rfl, S.c 1 2 rfl rfl, S.c 1 3 rfl rfl, S.c 0 0 rfl rfl, S.c 0 1 rfl rfl, S.c 0 2 rfl rfl, S.c 0 3 rfl rfl]) rfl ?_
  exact ⟨rfl, S.k⟩
set_option maxRecDepth 100000 in
set_option maxHeartbeats 1000000 in
theorem groot_neg {w : World} {V1 : Value} {x : Rat} {k : Int} (h1 : RatNum w V1 x) (h0 : 0 ≤ k) (hk1 : k ≤ 512) (hx : x < 0) : Calls Tryz.prog 38 #[V1, .int .i64 k] w (fun e w' => e = .returned (.tuple #[zeroRat, zeroRat, .int .i64 2]) ∧ Keeps w w') := by
  obtain ⟨b3, A3, n3, c3, d3, B3, m3, e3, rfl⟩ := h1.open_
  have z0 := h1.sz
  obtain ⟨s1, hs1⟩ : ∃ s, x.num.sign = s := ⟨_, rfl⟩
  have t1 : decide (s1 < 0) = true := by exact decide_eq_true (by rw [← hs1]; exact (rsgn_neg x).2 hx)
  have HS1 := Lib.hid hs1
  clear hs1
  have S := ((St.start w).addR h1)
  clear h1
  go_enter Tryz.func38, Tryz.ntmps38
  go_upto_region 1 with fail
  replace S := (((S.alloc 28 [.bool b3, .slice A3 n3 c3, .bool d3, .slice B3 m3 e3]).alloc 28 [.bool false, .slice none 0 0, .bool false, .slice none 0 0]).alloc 28 [.bool false, .slice none 0 0, .bool false, .slice none 0 0])
  simp only [World.size_alloc] at S
  obtain ⟨W1, eW, S⟩ := S.pack
  rw [eW]
  clear eW
  go_wp2_with fail
  refine ((gplaces_t h0 hk1)).mono ?_
  rintro e W2 ⟨rfl, hk⟩
  replace S := S.below hk
  clear hk
  have r0_0 := S.c 2 0 rfl rfl
  have r0_1 := S.c 2 1 rfl rfl
  have r0_2 := S.c 2 2 rfl rfl
  have r0_3 := S.c 2 3 rfl rfl
  go_wp2_with fail
  refine ((gsign_s (S.ri 0 rfl) HS1.out)).mono ?_
  rintro e W3 ⟨rfl, hk⟩
  replace S := S.below hk
  clear hk
  clear r0_0 r0_1 r0_2 r0_3
  have r1_0 := S.c 1 0 rfl rfl
  have f1_0 := S.f 1 0 rfl
  have r1_1 := S.c 1 1 rfl rfl
  have f1_1 := S.f 1 1 rfl
  have r1_2 := S.c 1 2 rfl rfl
  have f1_2 := S.f 1 2 rfl
  have r1_3 := S.c 1 3 rfl rfl
  have f1_3 := S.f 1 3 rfl
  have r2_0 := S.c 0 0 rfl rfl
  have f2_0 := S.f 0 0 rfl
  have r2_1 := S.c 0 1 rfl rfl
  have f2_1 := S.f 0 1 rfl
  have r2_2 := S.c 0 2 rfl rfl
  have f2_2 := S.f 0 2 rfl
  have r2_3 := S.c 0 3 rfl rfl
  have f2_3 := S.f 0 3 rfl
  go_wp2
  replace S := ((S.put4 1 rfl rfl rfl (x' := .bool false) (y' := .slice none 0 0) (z' := .bool false) (u' := .slice none 0 0)).put4 0 rfl rfl rfl (x' := .bool false) (y' := .slice none 0 0) (z' := .bool false) (u' := .slice none 0 0))
  refine bodyPost_ret (v := .tuple #[.agg #[.bool false, .slice none 0 0, .bool false, .slice none 0 0], .agg #[.bool false, .slice none 0 0, .bool false, .slice none 0 0], .int .i64 2]) (by simp [results, Tryz.results38, go_sem, S.c 1 0 rfl rfl, S.c 1 1 rfl rfl, S.c 1 2 rfl rfl, S.c 1 3 rfl rfl, S.c 0 0 rfl rfl, S.c 0 1 rfl rfl, S.c 0 2 rfl rfl, S.c 0 3 rfl rfl]) rfl ?_
  exact ⟨rfl, S.k⟩
set_option maxRecDepth 100000 in
set_option maxHeartbeats 2000000 in
theorem groot_eq {w : World} {V1 : Value} {x : Rat} {k P : Int} {r : Nat} (h1 : RatNum w V1 x) (h0 : 0 ≤ k) (hk1 : k ≤ 512) (hP : (2 : Int) ^ k.toNat = P) (hx : ¬ x < 0) (zx : szR x ≤ 60) (hr : IsRoot (x * ((P : Rat) * (P : Rat))).floor r) (he : Rat.divInt (r : Int) P * Rat.divInt (r : Int) P = x) : Calls Tryz.prog 38 #[V1, .int .i64 k] w (fun e w' => ∃ Q R, e = .returned (.tuple #[Q, R, .int .i64 0]) ∧ RatRep w' Q (Rat.divInt (r : Int) P) ∧ RatRep w' R (Rat.divInt (r : Int) P) ∧ Keeps w w') := by
  obtain ⟨b3, A3, n3, c3, d3, B3, m3, e3, rfl⟩ := h1.open_
  have z0 := h1.sz
  obtain ⟨u1, u2, u3, u4, u5, u6, u7, u8⟩ := groot_sizes h0 hk1 hP hx zx hr
  have y0 := szR_mul ((P : Rat)) ((P : Rat))
  have y1 := szR_mul x (((P : Rat)) * ((P : Rat)))
  have y2 := lenI_floor (x * (((P : Rat)) * ((P : Rat))))
  have y3 := szR_mul (Rat.divInt (r : Int) P) (Rat.divInt (r : Int) P)
  obtain ⟨s1, hs1⟩ : ∃ s, x.num.sign = s := ⟨_, rfl⟩
  obtain ⟨s2, hs2⟩ : ∃ s, cmpR ((Rat.divInt (r : Int) P) * (Rat.divInt (r : Int) P)) x = s := ⟨_, rfl⟩
  have t1 : decide (s1 < 0) = false := by exact decide_eq_false (by rw [← hs1]; exact fun h => hx ((rsgn_neg x).1 h))
  have t2 : (s2 == 0) = true := by rw [← hs2, (cmpR_zero _ _).2 he]; rfl
  have HS1 := Lib.hid hs1
  clear hs1
  have HS2 := Lib.hid hs2
  clear hs2
  have S := ((St.start w).addR h1)
  clear h1
  go_enter Tryz.func38, Tryz.ntmps38
  go_upto_region 1 with fail
  replace S := (((S.alloc 28 [.bool b3, .slice A3 n3 c3, .bool d3, .slice B3 m3 e3]).alloc 28 [.bool false, .slice none 0 0, .bool false, .slice none 0 0]).alloc 28 [.bool false, .slice none 0 0, .bool false, .slice none 0 0])
  simp only [World.size_alloc] at S
  obtain ⟨W1, eW, S⟩ := S.pack
  rw [eW]
  clear eW
  go_wp2_with fail
  refine ((gplaces_t h0 hk1)).mono ?_
  rintro e W2 ⟨rfl, hk⟩
  replace S := S.below hk
  clear hk
  have r0_0 := S.c 2 0 rfl rfl
  have r0_1 := S.c 2 1 rfl rfl
  have r0_2 := S.c 2 2 rfl rfl
  have r0_3 := S.c 2 3 rfl rfl
  go_wp2_with fail
  refine ((gsign_s (S.ri 0 rfl) HS1.out)).mono ?_
  rintro e W3 ⟨rfl, hk⟩
  replace S := S.below hk
  clear hk
  clear r0_0 r0_1 r0_2 r0_3
  go_upto_region 3 with fail
  refine wp_region_steps (m := 8) rfl (by kernel_rfl) (fun iΦ vΦ wΦ => (List.getD [fun vΦ _ => vΦ = .agg #[.bool b3, .slice A3 n3 c3, .bool d3, .slice B3 m3 e3], fun vΦ _ => vΦ = .int .i64 k, fun vΦ wΦ => RatRep wΦ vΦ ((P : Rat)), fun vΦ _ => vΦ = .int .i64 k, fun vΦ wΦ => RatRep wΦ vΦ ((P : Rat)), fun vΦ wΦ => RatRep wΦ vΦ (((P : Rat)) * ((P : Rat))), fun vΦ wΦ => RatRep wΦ vΦ (x * (((P : Rat)) * ((P : Rat)))), fun vΦ wΦ => ∃ b, vΦ = .pointer (some ⟨b, 0, none⟩) ∧ W3.heap.size ≤ b ∧ Own wΦ b 28 [.bool false, .slice none 0 0, .bool false, .slice none 0 0]] iΦ (fun _ _ => True)) vΦ wΦ) [7] ?_ ?_ ?_
  · intro i v w w' _ h hk
    refine stabL_get ?_ i v w w' h hk
    exact stab_cons st_e (stab_cons st_e (stab_cons st_q (stab_cons st_e (stab_cons st_q (stab_cons st_q (stab_cons st_q (stab_cons st_a stab_nil)))))))
  · intro i hi vs w3 hk3 hd
    have S3 := S.drew.below hk3
    have a0 := S3.c 2 0 rfl rfl
    have a1 := S3.c 2 1 rfl rfl
    have a2 := S3.c 2 2 rfl rfl
    have a3 := S3.c 2 3 rfl rfl
    match i, hi with
    | 0, _ =>
      refine step_val0 [] (fun vΦ _ => vΦ = .agg #[.bool b3, .slice A3 n3 c3, .bool d3, .slice B3 m3 e3]) rfl (by kernel_rfl) rfl (fun _ _ h => h) rfl fun K hK => ?_; clear hd; simp only [frD] at hK ⊢; go_simp
      exact hK _ _ (Below.refl _ _) rfl
    | 1, _ =>
      refine step_val0 [] (fun vΦ _ => vΦ = .int .i64 k) rfl (by kernel_rfl) rfl (fun _ _ h => h) rfl fun K hK => ?_; clear hd; simp only [frD] at hK ⊢; go_simp
      exact hK _ _ (Below.refl _ _) rfl
    | 2, _ =>
      have qe1 : (vs 1) = .int .i64 k := hd 1 (cm (by kernel_rfl))
      refine step_call (F := 98) (X := .func (.func 98) #[] #[]) (A := #[(vs 1)]) (B := #[.int .i64 k]) [(1, some 22)] (fun vΦ wΦ => RatRep wΦ vΦ ((P : Rat))) rfl (by kernel_rfl) (fun _ _ h => h) rfl (wanted_none rfl) rfl rfl (by kernel_rfl) rfl (by kernel_rfl) (by rw [qe1]) Tryz.func98 (by kernel_rfl) (by kernel_rfl) ?_
      refine ((gpower_num h0 hk1 hP)).mono ?_; rintro e w4 ⟨U, rfl, hr, hk4⟩; exact ⟨_, rfl, hk4, hr⟩
    | 3, _ =>
      refine step_val0 [] (fun vΦ _ => vΦ = .int .i64 k) rfl (by kernel_rfl) rfl (fun _ _ h => h) rfl fun K hK => ?_; clear hd; simp only [frD] at hK ⊢; go_simp
      exact hK _ _ (Below.refl _ _) rfl
    | 4, _ =>
      have h2 : RatRep w3 (vs 2) ((P : Rat)) := hd 2 (cm (by kernel_rfl)); have qe3 : (vs 3) = .int .i64 k := hd 3 (cm (by kernel_rfl))
      refine step_call (F := 98) (X := .func (.func 98) #[] #[]) (A := #[(vs 3)]) (B := #[.int .i64 k]) [(2, some 23), (3, some 24)] (fun vΦ wΦ => RatRep wΦ vΦ ((P : Rat))) rfl (by kernel_rfl) (fun _ _ h => h) rfl (wanted_none rfl) rfl rfl (by kernel_rfl) rfl (by kernel_rfl) (by rw [qe3]) Tryz.func98 (by kernel_rfl) (by kernel_rfl) ?_
      refine ((gpower_num h0 hk1 hP)).mono ?_; rintro e w4 ⟨U, rfl, hr, hk4⟩; exact ⟨_, rfl, hk4, hr⟩
    | 5, _ =>
      have h2 : RatRep w3 (vs 2) ((P : Rat)) := hd 2 (cm (by kernel_rfl)); have h4 : RatRep w3 (vs 4) ((P : Rat)) := hd 4 (cm (by kernel_rfl))
      refine step_call (F := 61) (X := .func (.func 61) #[] #[]) (A := #[(vs 2), (vs 4)]) (B := #[(vs 2), (vs 4)]) [(2, some 23), (4, some 25)] (fun vΦ wΦ => RatRep wΦ vΦ (((P : Rat)) * ((P : Rat)))) rfl (by kernel_rfl) (fun _ _ h => h) rfl (wanted_none rfl) rfl rfl (by kernel_rfl) rfl (by kernel_rfl) rfl Tryz.func61 (by kernel_rfl) (by kernel_rfl) ?_
      refine ((gmul_num (h2.num (by omega)) (h4.num (by omega)))).mono ?_; rintro e w4 ⟨U, rfl, hr, hk4⟩; exact ⟨_, rfl, hk4, hr⟩
    | 6, _ =>
      have qe0 : (vs 0) = .agg #[.bool b3, .slice A3 n3 c3, .bool d3, .slice B3 m3 e3] := hd 0 (cm (by kernel_rfl)); have h5 : RatRep w3 (vs 5) (((P : Rat)) * ((P : Rat))) := hd 5 (cm (by kernel_rfl))
      refine step_call (F := 61) (X := .func (.func 61) #[] #[]) (A := #[(vs 0), (vs 5)]) (B := #[.agg #[.bool b3, .slice A3 n3 c3, .bool d3, .slice B3 m3 e3], (vs 5)]) [(0, some 21), (5, some 26)] (fun vΦ wΦ => RatRep wΦ vΦ (x * (((P : Rat)) * ((P : Rat))))) rfl (by kernel_rfl) (fun _ _ h => h) rfl (wanted_none rfl) rfl rfl (by kernel_rfl) rfl (by kernel_rfl) (by rw [qe0]) Tryz.func61 (by kernel_rfl) (by kernel_rfl) ?_
      refine ((gmul_num (S3.ri 0 rfl) (h5.num (by omega)))).mono ?_; rintro e w4 ⟨U, rfl, hr, hk4⟩; exact ⟨_, rfl, hk4, hr⟩
    | 7, _ =>
      refine step_yes [] rfl (by kernel_rfl) fun K hK => ?_; simp only [frD] at hK ⊢; refine ⟨by rfl, ?_⟩; go_simp
      exact hK _ _ ⟨(Below.refl _ _).alloc (Nat.le_refl _) _, ⟨_, rfl, hk3.size, Own.new w3 _ _⟩, fun _ => ⟨rfl, by simp⟩⟩
    | i + 8, hi => exact absurd hi (by omega)
  · intro vs W4 hk3 hΦ _
    simp only [List.drop_succ_cons, List.drop_zero]
    rw [fr_frD, show (List.range 8).map _ = [(0, some 21), (1, some 22), (2, some 23), (3, some 24), (4, some 25), (5, some 26), (6, some 27), (7, some 7)] by kernel_rfl]
    have pa0 : (vs 0) = .agg #[.bool b3, .slice A3 n3 c3, .bool d3, .slice B3 m3 e3] := hΦ 0 (by decide)
    have pa1 : (vs 1) = .int .i64 k := hΦ 1 (by decide)
    have pa2 : RatRep W4 (vs 2) ((P : Rat)) := hΦ 2 (by decide)
    have pa3 : (vs 3) = .int .i64 k := hΦ 3 (by decide)
    have pa4 : RatRep W4 (vs 4) ((P : Rat)) := hΦ 4 (by decide)
    have pa5 : RatRep W4 (vs 5) (((P : Rat)) * ((P : Rat))) := hΦ 5 (by decide)
    have pa6 : RatRep W4 (vs 6) (x * (((P : Rat)) * ((P : Rat)))) := hΦ 6 (by decide)
    have pa7 : ∃ b, (vs 7) = .pointer (some ⟨b, 0, none⟩) ∧ W3.heap.size ≤ b ∧ Own W4 b 28 [.bool false, .slice none 0 0, .bool false, .slice none 0 0] := hΦ 7 (by decide)
    clear hΦ
    obtain ⟨bpa7, qA7, hlA7, hOA7⟩ := pa7
    simp only [frD, pa0, pa1, pa3, qA7]
    simp only [Act.put, List.setIfInBounds_toArray, List.set_cons_zero, List.set_cons_succ]
    clear pa0 pa1 pa3
    generalize vs 2 = Upa2 at pa2 ⊢
    generalize vs 4 = Upa4 at pa4 ⊢
    generalize vs 5 = Upa5 at pa5 ⊢
    generalize vs 6 = Upa6 at pa6 ⊢
    replace S := S.drew.box (S.drew.below hk3) hOA7 hlA7
    clear qA7 hlA7 hOA7
    clear pa2
    clear pa4
    clear pa5
    obtain ⟨b4, A4, n4, c4, d4, B4, m4, e4, rfl⟩ := pa6.open_
    replace S := S.addQ pa6
    clear pa6
    clear hk3
    have r3_0 := S.c 0 0 rfl rfl
    have f3_0 := S.f 0 0 rfl
    have r3_1 := S.c 0 1 rfl rfl
    have f3_1 := S.f 0 1 rfl
    have r3_2 := S.c 0 2 rfl rfl
    have f3_2 := S.f 0 2 rfl
    have r3_3 := S.c 0 3 rfl rfl
    have f3_3 := S.f 0 3 rfl
    go_upto_region 4 with fail
    replace S := (S.put4 0 rfl rfl rfl (x' := .bool b4) (y' := .slice A4 n4 c4) (z' := .bool d4) (u' := .slice B4 m4 e4))
    obtain ⟨W5, eW, S⟩ := S.pack
    rw [eW]
    clear eW
    clear r3_0 f3_0 r3_1 f3_1 r3_2 f3_2 r3_3 f3_3
    have r3_0 := S.c 0 0 rfl rfl
    have r3_1 := S.c 0 1 rfl rfl
    have r3_2 := S.c 0 2 rfl rfl
    have r3_3 := S.c 0 3 rfl rfl
    go_wp2_with fail
    refine ((gfloor_num ((S.qi 0 rfl).num (by omega)))).mono ?_
    rintro e W6 ⟨U6, rfl, hp, hk⟩
    obtain ⟨b5, A5, n5, c5, rfl⟩ := hp.open3
    replace S := (S.below hk).addI hp
    clear hk hp
    clear r3_0 r3_1 r3_2 r3_3
    go_wp2_with fail
    refine ((groot_rep (S.ii 0 rfl) hr u7 (by omega))).mono ?_
    rintro e W7 ⟨U7, rfl, hp, hk⟩
    obtain ⟨b6, A6, n6, c6, rfl⟩ := hp.open3
    replace S := (S.below hk).addI hp
    clear hk hp
    go_upto_region 5 with fail
    replace S := (S.alloc 24 [.bool b6, .slice A6 n6 c6])
    obtain ⟨W8, eW, S⟩ := S.pack
    rw [eW]
    clear eW
    generalize W7.heap.size = P1 at *
    have r4_0 := S.c 0 0 rfl rfl
    have r4_1 := S.c 0 1 rfl rfl
    go_wp2_with fail
    refine ((gpart_num (S.ii 0 rfl) (by omega) h0 hk1 hP)).mono ?_
    rintro e W9 ⟨U9, rfl, hp, hk⟩
    obtain ⟨b7, A7, n7, c7, d7, B7, m7, e7, rfl⟩ := hp.open_
    replace S := (S.below hk).addQ hp
    clear hk hp
    clear r4_0 r4_1
    go_upto_region 6 with fail
    replace S := (S.alloc 28 [.bool b7, .slice A7 n7 c7, .bool d7, .slice B7 m7 e7])
    obtain ⟨W10, eW, S⟩ := S.pack
    rw [eW]
    clear eW
    generalize W9.heap.size = P2 at *
    refine wp_region_steps (m := 5) rfl (by kernel_rfl) (fun iΦ vΦ wΦ => (List.getD [fun vΦ _ => vΦ = .agg #[.bool b7, .slice A7 n7 c7, .bool d7, .slice B7 m7 e7], fun vΦ _ => vΦ = .agg #[.bool b7, .slice A7 n7 c7, .bool d7, .slice B7 m7 e7], fun vΦ wΦ => RatRep wΦ vΦ ((Rat.divInt (r : Int) P) * (Rat.divInt (r : Int) P)), fun vΦ _ => vΦ = .agg #[.bool b3, .slice A3 n3 c3, .bool d3, .slice B3 m3 e3], fun vΦ _ => vΦ = .int .i64 s2] iΦ (fun _ _ => True)) vΦ wΦ) [] ?_ ?_ ?_
    · intro i v w w' _ h hk
      refine stabL_get ?_ i v w w' h hk
      exact stab_cons st_e (stab_cons st_e (stab_cons st_q (stab_cons st_e (stab_cons st_e stab_nil))))
    · intro i hi vs w3 hk3 hd
      have S3 := S.drew.below hk3
      have a0 := S3.c 5 0 rfl rfl
      have a1 := S3.c 5 1 rfl rfl
      have a2 := S3.c 5 2 rfl rfl
      have a3 := S3.c 5 3 rfl rfl
      have a4 := S3.c 0 0 rfl rfl
      have a5 := S3.c 0 1 rfl rfl
      have a6 := S3.c 0 2 rfl rfl
      have a7 := S3.c 0 3 rfl rfl
      match i, hi with
      | 0, _ =>
        refine step_val0 [] (fun vΦ _ => vΦ = .agg #[.bool b7, .slice A7 n7 c7, .bool d7, .slice B7 m7 e7]) rfl (by kernel_rfl) rfl (fun _ _ h => h) rfl fun K hK => ?_; clear hd; simp only [frD] at hK ⊢; go_simp
        exact hK _ _ (Below.refl _ _) rfl
      | 1, _ =>
        refine step_val0 [] (fun vΦ _ => vΦ = .agg #[.bool b7, .slice A7 n7 c7, .bool d7, .slice B7 m7 e7]) rfl (by kernel_rfl) rfl (fun _ _ h => h) rfl fun K hK => ?_; clear hd; simp only [frD] at hK ⊢; go_simp
        exact hK _ _ (Below.refl _ _) rfl
      | 2, _ =>
        have qe0 : (vs 0) = .agg #[.bool b7, .slice A7 n7 c7, .bool d7, .slice B7 m7 e7] := hd 0 (cm (by kernel_rfl)); have qe1 : (vs 1) = .agg #[.bool b7, .slice A7 n7 c7, .bool d7, .slice B7 m7 e7] := hd 1 (cm (by kernel_rfl))
        refine step_call (F := 61) (X := .func (.func 61) #[] #[]) (A := #[(vs 0), (vs 1)]) (B := #[.agg #[.bool b7, .slice A7 n7 c7, .bool d7, .slice B7 m7 e7], .agg #[.bool b7, .slice A7 n7 c7, .bool d7, .slice B7 m7 e7]]) [(0, some 37), (1, some 38)] (fun vΦ wΦ => RatRep wΦ vΦ ((Rat.divInt (r : Int) P) * (Rat.divInt (r : Int) P))) rfl (by kernel_rfl) (fun _ _ h => h) rfl (wanted_none rfl) rfl rfl (by kernel_rfl) rfl (by kernel_rfl) (by rw [qe0, qe1]) Tryz.func61 (by kernel_rfl) (by kernel_rfl) ?_
        refine ((gmul_num ((S3.qi 0 rfl).num (by omega)) ((S3.qi 0 rfl).num (by omega)))).mono ?_; rintro e w4 ⟨U, rfl, hr, hk4⟩; exact ⟨_, rfl, hk4, hr⟩
      | 3, _ =>
        refine step_val0 [] (fun vΦ _ => vΦ = .agg #[.bool b3, .slice A3 n3 c3, .bool d3, .slice B3 m3 e3]) rfl (by kernel_rfl) rfl (fun _ _ h => h) rfl fun K hK => ?_; clear hd; simp only [frD] at hK ⊢; go_simp
        exact hK _ _ (Below.refl _ _) rfl
      | 4, _ =>
        have h2 : RatRep w3 (vs 2) ((Rat.divInt (r : Int) P) * (Rat.divInt (r : Int) P)) := hd 2 (cm (by kernel_rfl)); have qe3 : (vs 3) = .agg #[.bool b3, .slice A3 n3 c3, .bool d3, .slice B3 m3 e3] := hd 3 (cm (by kernel_rfl))
        refine step_call (F := 43) (X := .func (.func 43) #[] #[]) (A := #[(vs 2), (vs 3)]) (B := #[(vs 2), .agg #[.bool b3, .slice A3 n3 c3, .bool d3, .slice B3 m3 e3]]) [(2, some 39), (3, some 40)] (fun vΦ _ => vΦ = .int .i64 s2) rfl (by kernel_rfl) (fun _ _ h => h) rfl (wanted_none rfl) rfl rfl (by kernel_rfl) rfl (by kernel_rfl) (by rw [qe3]) Tryz.func43 (by kernel_rfl) (by kernel_rfl) ?_
        refine ((gcompare_s (h2.num (by omega)) (S3.ri 4 rfl) (by omega) HS2.out)).mono ?_; rintro e w4 ⟨rfl, hk4⟩; exact ⟨_, rfl, hk4, rfl⟩
      | i + 5, hi => exact absurd hi (by omega)
    · intro vs W11 hk3 hΦ _
      simp only [List.drop_succ_cons, List.drop_zero]
      rw [fr_frD, show (List.range 5).map _ = [(0, some 37), (1, some 38), (2, some 39), (3, some 40), (4, some 41)] by kernel_rfl]
      have pb0 : (vs 0) = .agg #[.bool b7, .slice A7 n7 c7, .bool d7, .slice B7 m7 e7] := hΦ 0 (by decide)
      have pb1 : (vs 1) = .agg #[.bool b7, .slice A7 n7 c7, .bool d7, .slice B7 m7 e7] := hΦ 1 (by decide)
      have pb2 : RatRep W11 (vs 2) ((Rat.divInt (r : Int) P) * (Rat.divInt (r : Int) P)) := hΦ 2 (by decide)
      have pb3 : (vs 3) = .agg #[.bool b3, .slice A3 n3 c3, .bool d3, .slice B3 m3 e3] := hΦ 3 (by decide)
      have pb4 : (vs 4) = .int .i64 s2 := hΦ 4 (by decide)
      clear hΦ
      simp only [frD, pb0, pb1, pb3, pb4]
      simp only [Act.put, List.setIfInBounds_toArray, List.set_cons_zero, List.set_cons_succ]
      clear pb0 pb1 pb3 pb4
      generalize vs 2 = Upb2 at pb2 ⊢
      replace S := S.drew.below hk3
      clear pb2
      clear hk3
      go_upto_region 7 with fail
      obtain ⟨W12, eX0, T0⟩ := S.drew.pack
      have r90_0 := T0.c 4 0 rfl rfl
      have f90_0 := T0.f 4 0 rfl
      have r90_1 := T0.c 4 1 rfl rfl
      have f90_1 := T0.f 4 1 rfl
      have r90_2 := T0.c 4 2 rfl rfl
      have f90_2 := T0.f 4 2 rfl
      have r90_3 := T0.c 4 3 rfl rfl
      have f90_3 := T0.f 4 3 rfl
      obtain ⟨W13, eX1, T1⟩ := (T0.put4 4 rfl rfl rfl (x' := .bool b7) (y' := .slice A7 n7 c7) (z' := .bool d7) (u' := .slice B7 m7 e7)).pack
      have r91_0 := T1.c 3 0 rfl rfl
      have f91_0 := T1.f 3 0 rfl
      have r91_1 := T1.c 3 1 rfl rfl
      have f91_1 := T1.f 3 1 rfl
      have r91_2 := T1.c 3 2 rfl rfl
      have f91_2 := T1.f 3 2 rfl
      have r91_3 := T1.c 3 3 rfl rfl
      have f91_3 := T1.f 3 3 rfl
      obtain ⟨W14, eX2, T2⟩ := (T1.put4 3 rfl rfl rfl (x' := .bool b7) (y' := .slice A7 n7 c7) (z' := .bool d7) (u' := .slice B7 m7 e7)).pack
      have C5_0 := Lib.hid (fun p => two_all (p := p) (a := 2) (b := 3) (X := fun w' => w'.cell? ⟨P2, 0, none⟩ = some (.bool b7)) (T0.c 0 0 rfl rfl) (T1.c 0 0 rfl rfl) (T2.c 0 0 rfl rfl))
      have C5_1 := Lib.hid (fun p => two_all (p := p) (a := 2) (b := 3) (X := fun w' => w'.cell? ⟨P2, 1, none⟩ = some (.slice A7 n7 c7)) (T0.c 0 1 rfl rfl) (T1.c 0 1 rfl rfl) (T2.c 0 1 rfl rfl))
      have C5_2 := Lib.hid (fun p => two_all (p := p) (a := 2) (b := 3) (X := fun w' => w'.cell? ⟨P2, 2, none⟩ = some (.bool d7)) (T0.c 0 2 rfl rfl) (T1.c 0 2 rfl rfl) (T2.c 0 2 rfl rfl))
      have C5_3 := Lib.hid (fun p => two_all (p := p) (a := 2) (b := 3) (X := fun w' => w'.cell? ⟨P2, 3, none⟩ = some (.slice B7 m7 e7)) (T0.c 0 3 rfl rfl) (T1.c 0 3 rfl rfl) (T2.c 0 3 rfl rfl))
      refine wp_region_det rfl (by kernel_rfl) (fun iΦ => List.getD [.agg #[.bool b7, .slice A7 n7 c7, .bool d7, .slice B7 m7 e7], .agg #[.bool b7, .slice A7 n7 c7, .bool d7, .slice B7 m7 e7], undef, undef, .int .i64 0] iΦ undef) (two W12 W13 W14 2 3) eX0.symm (two_cong (by decide) (by decide)) ?_ ?_
      · intro i hi
        have hi' : i < 5 := hi
        match i, hi' with
        | 0, _ =>
          refine stepDet_at [] (some 43) rfl (by kernel_rfl) rfl (by kernel_rfl) fun p h1 h2 h3 K hK => ?_
          rw [two_other (by decide) (by decide)] at hK
          have c5_0 := C5_0.out p; have c5_1 := C5_1.out p; have c5_2 := C5_2.out p; have c5_3 := C5_3.out p
          simp only [frD, gz, Act.put, List.setIfInBounds_toArray, List.set_cons_zero, List.set_cons_succ] at hK ⊢
          clear h2 h3
          go_simp
          with_reducible exact hK
        | 1, _ =>
          refine stepDet_at [] (some 44) rfl (by kernel_rfl) rfl (by kernel_rfl) fun p h1 h2 h3 K hK => ?_
          rw [two_other (by decide) (by decide)] at hK
          have c5_0 := C5_0.out p; have c5_1 := C5_1.out p; have c5_2 := C5_2.out p; have c5_3 := C5_3.out p
          simp only [frD, gz, gs, Act.put, List.setIfInBounds_toArray, List.set_cons_zero, List.set_cons_succ] at hK ⊢
          clear h2 h3
          go_simp
          with_reducible exact hK
        | 2, _ =>
          refine stepDet_at [(0, some 43)] (none) rfl (by kernel_rfl) rfl (by kernel_rfl) fun p h1 h2 h3 K hK => ?_
          have pb : p 3 = false := by
            cases hc : p 3 with
            | false => rfl
            | true => exact absurd (h3 3 2 hc (List.contains_iff_mem.1 (by kernel_rfl))) (by simp [h1])
          have x := two_a (w0 := W12) (w1 := W13) (w2 := W14) (a := 2) (b := 3) (by decide) h1 pb
          rw [x.1]
          rw [x.2] at hK
          clear x
          simp only [frD, gz, Act.put, List.setIfInBounds_toArray, List.set_cons_zero, List.set_cons_succ] at hK ⊢
          clear h2 h3
          go_simp
          with_reducible exact hK
        | 3, _ =>
          refine stepDet_at [(0, some 43), (1, some 44), (2, none)] (none) rfl (by kernel_rfl) rfl (by kernel_rfl) fun p h1 h2 h3 K hK => ?_
          have pa : p 2 = true := h2 2 (List.contains_iff_mem.1 (by kernel_rfl))
          have x := two_b (w0 := W12) (w1 := W13) (w2 := W14) (a := 2) (b := 3) pa h1
          rw [x.1]
          rw [x.2] at hK
          clear x
          simp only [frD, gz, gs, Act.put, List.setIfInBounds_toArray, List.set_cons_zero, List.set_cons_succ] at hK ⊢
          clear h2 h3
          go_simp
          with_reducible exact hK
        | 4, _ =>
          refine stepDet_at [(0, some 43), (1, some 44), (2, none), (3, none)] (some 6) rfl (by kernel_rfl) rfl (by kernel_rfl) fun p h1 h2 h3 K hK => ?_
          rw [two_other (by decide) (by decide)] at hK
          have c5_0 := C5_0.out p; have c5_1 := C5_1.out p; have c5_2 := C5_2.out p; have c5_3 := C5_3.out p
          simp only [frD, gz, gs, Act.put, List.setIfInBounds_toArray, List.set_cons_zero, List.set_cons_succ] at hK ⊢
          clear h2 h3
          go_simp
          with_reducible exact hK
      · rw [show two W12 W13 W14 2 3 (fun _ => true) = W14 from rfl, fr_frD, show (List.range _).map _ = [(0, some 43), (1, some 44), (2, none), (3, none), (4, some 6)] by kernel_rfl]
        simp only [frD, gz, gs, Act.put, List.setIfInBounds_toArray, List.set_cons_zero, List.set_cons_succ]
        clear S eX0 eX1 eX2 T0 T1 r90_0 f90_0 r90_1 f90_1 r90_2 f90_2 r90_3 f90_3 r91_0 f91_0 r91_1 f91_1 r91_2 f91_2 r91_3 f91_3
        clear C5_0
        clear C5_1
        clear C5_2
        clear C5_3
        have S := T2
        clear T2
        have r1_0 := S.c 4 0 rfl rfl
        have r1_1 := S.c 4 1 rfl rfl
        have r1_2 := S.c 4 2 rfl rfl
        have r1_3 := S.c 4 3 rfl rfl
        have r2_0 := S.c 3 0 rfl rfl
        have r2_1 := S.c 3 1 rfl rfl
        have r2_2 := S.c 3 2 rfl rfl
        have r2_3 := S.c 3 3 rfl rfl
        go_wp2
        refine bodyPost_ret (v := .tuple #[.agg #[.bool b7, .slice A7 n7 c7, .bool d7, .slice B7 m7 e7], .agg #[.bool b7, .slice A7 n7 c7, .bool d7, .slice B7 m7 e7], .int .i64 0]) (by simp [results, Tryz.results38, go_sem, S.c 4 0 rfl rfl, S.c 4 1 rfl rfl, S.c 4 2 rfl rfl, S.c 4 3 rfl rfl, S.c 3 0 rfl rfl, S.c 3 1 rfl rfl, S.c 3 2 rfl rfl, S.c 3 3 rfl rfl]) rfl ?_
        exact ⟨_, _, rfl, S.qi 0 rfl, S.qi 0 rfl, S.k⟩
set_option maxRecDepth 100000 in
set_option maxHeartbeats 2000000 in
theorem groot_ne {w : World} {V1 : Value} {x : Rat} {k P : Int} {r : Nat} (h1 : RatNum w V1 x) (h0 : 0 ≤ k) (hk1 : k ≤ 512) (hP : (2 : Int) ^ k.toNat = P) (hx : ¬ x < 0) (zx : szR x ≤ 60) (hr : IsRoot (x * ((P : Rat) * (P : Rat))).floor r) (he : Rat.divInt (r : Int) P * Rat.divInt (r : Int) P ≠ x) : Calls Tryz.prog 38 #[V1, .int .i64 k] w (fun e w' => ∃ Q R, e = .returned (.tuple #[Q, R, .int .i64 0]) ∧ RatRep w' Q (Rat.divInt (r : Int) P) ∧ RatRep w' R (Rat.divInt ((r : Int) + 1) P) ∧ Keeps w w') := by
  obtain ⟨b3, A3, n3, c3, d3, B3, m3, e3, rfl⟩ := h1.open_
  have z0 := h1.sz
  obtain ⟨u1, u2, u3, u4, u5, u6, u7, u8⟩ := groot_sizes h0 hk1 hP hx zx hr
  have u9 := lenI_one
  have y0 := szR_mul ((P : Rat)) ((P : Rat))
  have y1 := szR_mul x (((P : Rat)) * ((P : Rat)))
  have y2 := lenI_floor (x * (((P : Rat)) * ((P : Rat))))
  have y3 := szR_mul (Rat.divInt (r : Int) P) (Rat.divInt (r : Int) P)
  have y4 := lenI_add ((r : Int)) 1
  obtain ⟨s1, hs1⟩ : ∃ s, x.num.sign = s := ⟨_, rfl⟩
  obtain ⟨s2, hs2⟩ : ∃ s, cmpR ((Rat.divInt (r : Int) P) * (Rat.divInt (r : Int) P)) x = s := ⟨_, rfl⟩
  have t1 : decide (s1 < 0) = false := by exact decide_eq_false (by rw [← hs1]; exact fun h => hx ((rsgn_neg x).1 h))
  have t2 : (s2 == 0) = false := by rw [← hs2]; exact beq_eq_false_iff_ne.2 (fun h => he ((cmpR_zero _ _).1 h))
  have HS1 := Lib.hid hs1
  clear hs1
  have HS2 := Lib.hid hs2
  clear hs2
  have S := ((St.start w).addR h1)
  clear h1
  go_enter Tryz.func38, Tryz.ntmps38
  go_upto_region 1 with fail
  replace S := (((S.alloc 28 [.bool b3, .slice A3 n3 c3, .bool d3, .slice B3 m3 e3]).alloc 28 [.bool false, .slice none 0 0, .bool false, .slice none 0 0]).alloc 28 [.bool false, .slice none 0 0, .bool false, .slice none 0 0])
  simp only [World.size_alloc] at S
  obtain ⟨W1, eW, S⟩ := S.pack
  rw [eW]
  clear eW
  go_wp2_with fail
  refine ((gplaces_t h0 hk1)).mono ?_
  rintro e W2 ⟨rfl, hk⟩
  replace S := S.below hk
  clear hk
  have r0_0 := S.c 2 0 rfl rfl
  have r0_1 := S.c 2 1 rfl rfl
  have r0_2 := S.c 2 2 rfl rfl
  have r0_3 := S.c 2 3 rfl rfl
  go_wp2_with fail
  refine ((gsign_s (S.ri 0 rfl) HS1.out)).mono ?_
  rintro e W3 ⟨rfl, hk⟩
  replace S := S.below hk
  clear hk
  clear r0_0 r0_1 r0_2 r0_3
  go_upto_region 3 with fail
  refine wp_region_steps (m := 8) rfl (by kernel_rfl) (fun iΦ vΦ wΦ => (List.getD [fun vΦ _ => vΦ = .agg #[.bool b3, .slice A3 n3 c3, .bool d3, .slice B3 m3 e3], fun vΦ _ => vΦ = .int .i64 k, fun vΦ wΦ => RatRep wΦ vΦ ((P : Rat)), fun vΦ _ => vΦ = .int .i64 k, fun vΦ wΦ => RatRep wΦ vΦ ((P : Rat)), fun vΦ wΦ => RatRep wΦ vΦ (((P : Rat)) * ((P : Rat))), fun vΦ wΦ => RatRep wΦ vΦ (x * (((P : Rat)) * ((P : Rat)))), fun vΦ wΦ => ∃ b, vΦ = .pointer (some ⟨b, 0, none⟩) ∧ W3.heap.size ≤ b ∧ Own wΦ b 28 [.bool false, .slice none 0 0, .bool false, .slice none 0 0]] iΦ (fun _ _ => True)) vΦ wΦ) [7] ?_ ?_ ?_
  · intro i v w w' _ h hk
    refine stabL_get ?_ i v w w' h hk
    exact stab_cons st_e (stab_cons st_e (stab_cons st_q (stab_cons st_e (stab_cons st_q (stab_cons st_q (stab_cons st_q (stab_cons st_a stab_nil)))))))
  · intro i hi vs w3 hk3 hd
    have S3 := S.drew.below hk3
    have a0 := S3.c 2 0 rfl rfl
    have a1 := S3.c 2 1 rfl rfl
    have a2 := S3.c 2 2 rfl rfl
    have a3 := S3.c 2 3 rfl rfl
    match i, hi with
    | 0, _ =>
      refine step_val0 [] (fun vΦ _ => vΦ = .agg #[.bool b3, .slice A3 n3 c3, .bool d3, .slice B3 m3 e3]) rfl (by kernel_rfl) rfl (fun _ _ h => h) rfl fun K hK => ?_; clear hd; simp only [frD] at hK ⊢; go_simp
      exact hK _ _ (Below.refl _ _) rfl
    | 1, _ =>
      refine step_val0 [] (fun vΦ _ => vΦ = .int .i64 k) rfl (by kernel_rfl) rfl (fun _ _ h => h) rfl fun K hK => ?_; clear hd; simp only [frD] at hK ⊢; go_simp
      exact hK _ _ (Below.refl _ _) rfl
    | 2, _ =>
      have e1 : (vs 1) = .int .i64 k := hd 1 (cm (by kernel_rfl))
      refine step_val0 [(1, some 22)] (fun vΦ wΦ => RatRep wΦ vΦ ((P : Rat))) rfl (by kernel_rfl) rfl (fun _ _ h => h) rfl fun K hK => ?_; clear hd; simp only [frD, e1] at hK ⊢; go_simp
      refine ((gpower_num h0 hk1 hP)).mono ?_; rintro e w4 ⟨U, rfl, hr, hk4⟩; exact hK _ _ hk4 hr
    | 3, _ =>
      refine step_val0 [] (fun vΦ _ => vΦ = .int .i64 k) rfl (by kernel_rfl) rfl (fun _ _ h => h) rfl fun K hK => ?_; clear hd; simp only [frD] at hK ⊢; go_simp
      exact hK _ _ (Below.refl _ _) rfl
    | 4, _ =>
      have h2 : RatRep w3 (vs 2) ((P : Rat)) := hd 2 (cm (by kernel_rfl)); have e3 : (vs 3) = .int .i64 k := hd 3 (cm (by kernel_rfl))
      refine step_val0 [(2, some 23), (3, some 24)] (fun vΦ wΦ => RatRep wΦ vΦ ((P : Rat))) rfl (by kernel_rfl) rfl (fun _ _ h => h) rfl fun K hK => ?_; clear hd; simp only [frD, e3] at hK ⊢; go_simp
      refine ((gpower_num h0 hk1 hP)).mono ?_; rintro e w4 ⟨U, rfl, hr, hk4⟩; exact hK _ _ hk4 hr
    | 5, _ =>
      have h2 : RatRep w3 (vs 2) ((P : Rat)) := hd 2 (cm (by kernel_rfl)); have h4 : RatRep w3 (vs 4) ((P : Rat)) := hd 4 (cm (by kernel_rfl))
      refine step_val0 [(2, some 23), (4, some 25)] (fun vΦ wΦ => RatRep wΦ vΦ (((P : Rat)) * ((P : Rat)))) rfl (by kernel_rfl) rfl (fun _ _ h => h) rfl fun K hK => ?_; clear hd; simp only [frD] at hK ⊢; go_simp
      refine ((gmul_num (h2.num (by omega)) (h4.num (by omega)))).mono ?_; rintro e w4 ⟨U, rfl, hr, hk4⟩; exact hK _ _ hk4 hr
    | 6, _ =>
      have e0 : (vs 0) = .agg #[.bool b3, .slice A3 n3 c3, .bool d3, .slice B3 m3 e3] := hd 0 (cm (by kernel_rfl)); have h5 : RatRep w3 (vs 5) (((P : Rat)) * ((P : Rat))) := hd 5 (cm (by kernel_rfl))
      refine step_val0 [(0, some 21), (5, some 26)] (fun vΦ wΦ => RatRep wΦ vΦ (x * (((P : Rat)) * ((P : Rat))))) rfl (by kernel_rfl) rfl (fun _ _ h => h) rfl fun K hK => ?_; clear hd; simp only [frD, e0] at hK ⊢; go_simp
      refine ((gmul_num (S3.ri 0 rfl) (h5.num (by omega)))).mono ?_; rintro e w4 ⟨U, rfl, hr, hk4⟩; exact hK _ _ hk4 hr
    | 7, _ =>
      refine step_yes [] rfl (by kernel_rfl) fun K hK => ?_; simp only [frD] at hK ⊢; refine ⟨by rfl, ?_⟩; go_simp
      exact hK _ _ ⟨(Below.refl _ _).alloc (Nat.le_refl _) _, ⟨_, rfl, hk3.size, Own.new w3 _ _⟩, fun _ => ⟨rfl, by simp⟩⟩
    | i + 8, hi => exact absurd hi (by omega)
  · intro vs W4 hk3 hΦ _
    simp only [List.drop_succ_cons, List.drop_zero]
    rw [fr_frD, show (List.range 8).map _ = [(0, some 21), (1, some 22), (2, some 23), (3, some 24), (4, some 25), (5, some 26), (6, some 27), (7, some 7)] by kernel_rfl]
    have pa0 : (vs 0) = .agg #[.bool b3, .slice A3 n3 c3, .bool d3, .slice B3 m3 e3] := hΦ 0 (by decide)
    have pa1 : (vs 1) = .int .i64 k := hΦ 1 (by decide)
    have pa2 : RatRep W4 (vs 2) ((P : Rat)) := hΦ 2 (by decide)
    have pa3 : (vs 3) = .int .i64 k := hΦ 3 (by decide)
    have pa4 : RatRep W4 (vs 4) ((P : Rat)) := hΦ 4 (by decide)
    have pa5 : RatRep W4 (vs 5) (((P : Rat)) * ((P : Rat))) := hΦ 5 (by decide)
    have pa6 : RatRep W4 (vs 6) (x * (((P : Rat)) * ((P : Rat)))) := hΦ 6 (by decide)
    have pa7 : ∃ b, (vs 7) = .pointer (some ⟨b, 0, none⟩) ∧ W3.heap.size ≤ b ∧ Own W4 b 28 [.bool false, .slice none 0 0, .bool false, .slice none 0 0] := hΦ 7 (by decide)
    clear hΦ
    obtain ⟨bpa7, qA7, hlA7, hOA7⟩ := pa7
    simp only [frD, pa0, pa1, pa3, qA7]
    simp only [Act.put, List.setIfInBounds_toArray, List.set_cons_zero, List.set_cons_succ]
    clear pa0 pa1 pa3
    generalize vs 2 = Upa2 at pa2 ⊢
    generalize vs 4 = Upa4 at pa4 ⊢
    generalize vs 5 = Upa5 at pa5 ⊢
    generalize vs 6 = Upa6 at pa6 ⊢
    replace S := S.drew.box (S.drew.below hk3) hOA7 hlA7
    clear qA7 hlA7 hOA7
    clear pa2
    clear pa4
    clear pa5
    obtain ⟨b4, A4, n4, c4, d4, B4, m4, e4, rfl⟩ := pa6.open_
    replace S := S.addQ pa6
    clear pa6
    clear hk3
    have r3_0 := S.c 0 0 rfl rfl
    have f3_0 := S.f 0 0 rfl
    have r3_1 := S.c 0 1 rfl rfl
    have f3_1 := S.f 0 1 rfl
    have r3_2 := S.c 0 2 rfl rfl
    have f3_2 := S.f 0 2 rfl
    have r3_3 := S.c 0 3 rfl rfl
    have f3_3 := S.f 0 3 rfl
    go_upto_region 4 with fail
    replace S := (S.put4 0 rfl rfl rfl (x' := .bool b4) (y' := .slice A4 n4 c4) (z' := .bool d4) (u' := .slice B4 m4 e4))
    obtain ⟨W5, eW, S⟩ := S.pack
    rw [eW]
    clear eW
    clear r3_0 f3_0 r3_1 f3_1 r3_2 f3_2 r3_3 f3_3
    have r3_0 := S.c 0 0 rfl rfl
    have r3_1 := S.c 0 1 rfl rfl
    have r3_2 := S.c 0 2 rfl rfl
    have r3_3 := S.c 0 3 rfl rfl
    go_wp2_with fail
    refine ((gfloor_num ((S.qi 0 rfl).num (by omega)))).mono ?_
    rintro e W6 ⟨U6, rfl, hp, hk⟩
    obtain ⟨b5, A5, n5, c5, rfl⟩ := hp.open3
    replace S := (S.below hk).addI hp
    clear hk hp
    clear r3_0 r3_1 r3_2 r3_3
    go_wp2_with fail
    refine ((groot_rep (S.ii 0 rfl) hr u7 (by omega))).mono ?_
    rintro e W7 ⟨U7, rfl, hp, hk⟩
    obtain ⟨b6, A6, n6, c6, rfl⟩ := hp.open3
    replace S := (S.below hk).addI hp
    clear hk hp
    go_upto_region 5 with fail
    replace S := (S.alloc 24 [.bool b6, .slice A6 n6 c6])
    obtain ⟨W8, eW, S⟩ := S.pack
    rw [eW]
    clear eW
    generalize W7.heap.size = P1 at *
    have r4_0 := S.c 0 0 rfl rfl
    have r4_1 := S.c 0 1 rfl rfl
    go_wp2_with fail
    refine ((gpart_num (S.ii 0 rfl) (by omega) h0 hk1 hP)).mono ?_
    rintro e W9 ⟨U9, rfl, hp, hk⟩
    obtain ⟨b7, A7, n7, c7, d7, B7, m7, e7, rfl⟩ := hp.open_
    replace S := (S.below hk).addQ hp
    clear hk hp
    clear r4_0 r4_1
    go_upto_region 6 with fail
    replace S := (S.alloc 28 [.bool b7, .slice A7 n7 c7, .bool d7, .slice B7 m7 e7])
    obtain ⟨W10, eW, S⟩ := S.pack
    rw [eW]
    clear eW
    generalize W9.heap.size = P2 at *
    refine wp_region_steps (m := 5) rfl (by kernel_rfl) (fun iΦ vΦ wΦ => (List.getD [fun vΦ _ => vΦ = .agg #[.bool b7, .slice A7 n7 c7, .bool d7, .slice B7 m7 e7], fun vΦ _ => vΦ = .agg #[.bool b7, .slice A7 n7 c7, .bool d7, .slice B7 m7 e7], fun vΦ wΦ => RatRep wΦ vΦ ((Rat.divInt (r : Int) P) * (Rat.divInt (r : Int) P)), fun vΦ _ => vΦ = .agg #[.bool b3, .slice A3 n3 c3, .bool d3, .slice B3 m3 e3], fun vΦ _ => vΦ = .int .i64 s2] iΦ (fun _ _ => True)) vΦ wΦ) [] ?_ ?_ ?_
    · intro i v w w' _ h hk
      refine stabL_get ?_ i v w w' h hk
      exact stab_cons st_e (stab_cons st_e (stab_cons st_q (stab_cons st_e (stab_cons st_e stab_nil))))
    · intro i hi vs w3 hk3 hd
      have S3 := S.drew.below hk3
      have a0 := S3.c 5 0 rfl rfl
      have a1 := S3.c 5 1 rfl rfl
      have a2 := S3.c 5 2 rfl rfl
      have a3 := S3.c 5 3 rfl rfl
      have a4 := S3.c 0 0 rfl rfl
      have a5 := S3.c 0 1 rfl rfl
      have a6 := S3.c 0 2 rfl rfl
      have a7 := S3.c 0 3 rfl rfl
      match i, hi with
      | 0, _ =>
        refine step_val0 [] (fun vΦ _ => vΦ = .agg #[.bool b7, .slice A7 n7 c7, .bool d7, .slice B7 m7 e7]) rfl (by kernel_rfl) rfl (fun _ _ h => h) rfl fun K hK => ?_; clear hd; simp only [frD] at hK ⊢; go_simp
        exact hK _ _ (Below.refl _ _) rfl
      | 1, _ =>
        refine step_val0 [] (fun vΦ _ => vΦ = .agg #[.bool b7, .slice A7 n7 c7, .bool d7, .slice B7 m7 e7]) rfl (by kernel_rfl) rfl (fun _ _ h => h) rfl fun K hK => ?_; clear hd; simp only [frD] at hK ⊢; go_simp
        exact hK _ _ (Below.refl _ _) rfl
      | 2, _ =>
        have e0 : (vs 0) = .agg #[.bool b7, .slice A7 n7 c7, .bool d7, .slice B7 m7 e7] := hd 0 (cm (by kernel_rfl)); have e1 : (vs 1) = .agg #[.bool b7, .slice A7 n7 c7, .bool d7, .slice B7 m7 e7] := hd 1 (cm (by kernel_rfl))
        refine step_val0 [(0, some 37), (1, some 38)] (fun vΦ wΦ => RatRep wΦ vΦ ((Rat.divInt (r : Int) P) * (Rat.divInt (r : Int) P))) rfl (by kernel_rfl) rfl (fun _ _ h => h) rfl fun K hK => ?_; clear hd; simp only [frD, e0, e1] at hK ⊢; go_simp
        refine ((gmul_num ((S3.qi 0 rfl).num (by omega)) ((S3.qi 0 rfl).num (by omega)))).mono ?_; rintro e w4 ⟨U, rfl, hr, hk4⟩; exact hK _ _ hk4 hr
      | 3, _ =>
        refine step_val0 [] (fun vΦ _ => vΦ = .agg #[.bool b3, .slice A3 n3 c3, .bool d3, .slice B3 m3 e3]) rfl (by kernel_rfl) rfl (fun _ _ h => h) rfl fun K hK => ?_; clear hd; simp only [frD] at hK ⊢; go_simp
        exact hK _ _ (Below.refl _ _) rfl
      | 4, _ =>
        have h2 : RatRep w3 (vs 2) ((Rat.divInt (r : Int) P) * (Rat.divInt (r : Int) P)) := hd 2 (cm (by kernel_rfl)); have e3 : (vs 3) = .agg #[.bool b3, .slice A3 n3 c3, .bool d3, .slice B3 m3 e3] := hd 3 (cm (by kernel_rfl))
        refine step_val0 [(2, some 39), (3, some 40)] (fun vΦ _ => vΦ = .int .i64 s2) rfl (by kernel_rfl) rfl (fun _ _ h => h) rfl fun K hK => ?_; clear hd; simp only [frD, e3] at hK ⊢; go_simp
        refine ((gcompare_s (h2.num (by omega)) (S3.ri 4 rfl) (by omega) HS2.out)).mono ?_; rintro e w4 ⟨rfl, hk4⟩; exact hK _ _ hk4 rfl
      | i + 5, hi => exact absurd hi (by omega)
    · intro vs W11 hk3 hΦ _
      simp only [List.drop_succ_cons, List.drop_zero]
      rw [fr_frD, show (List.range 5).map _ = [(0, some 37), (1, some 38), (2, some 39), (3, some 40), (4, some 41)] by kernel_rfl]
      have pb0 : (vs 0) = .agg #[.bool b7, .slice A7 n7 c7, .bool d7, .slice B7 m7 e7] := hΦ 0 (by decide)
      have pb1 : (vs 1) = .agg #[.bool b7, .slice A7 n7 c7, .bool d7, .slice B7 m7 e7] := hΦ 1 (by decide)
      have pb2 : RatRep W11 (vs 2) ((Rat.divInt (r : Int) P) * (Rat.divInt (r : Int) P)) := hΦ 2 (by decide)
      have pb3 : (vs 3) = .agg #[.bool b3, .slice A3 n3 c3, .bool d3, .slice B3 m3 e3] := hΦ 3 (by decide)
      have pb4 : (vs 4) = .int .i64 s2 := hΦ 4 (by decide)
      clear hΦ
      simp only [frD, pb0, pb1, pb3, pb4]
      simp only [Act.put, List.setIfInBounds_toArray, List.set_cons_zero, List.set_cons_succ]
      clear pb0 pb1 pb3 pb4
      generalize vs 2 = Upb2 at pb2 ⊢
      replace S := S.drew.below hk3
      clear pb2
      clear hk3
      go_upto_region 8 with fail
      refine wp_region_steps (m := 6) rfl (by kernel_rfl) (fun iΦ vΦ wΦ => (List.getD [fun vΦ _ => vΦ = .agg #[.bool b7, .slice A7 n7 c7, .bool d7, .slice B7 m7 e7], fun vΦ _ => vΦ = .agg #[.bool b6, .slice A6 n6 c6], fun vΦ wΦ => IntRep wΦ vΦ (1), fun vΦ wΦ => IntRep wΦ vΦ (((r : Int)) + 1), fun vΦ _ => vΦ = .int .i64 k, fun vΦ wΦ => RatRep wΦ vΦ (Rat.divInt ((r : Int) + 1) P)] iΦ (fun _ _ => True)) vΦ wΦ) [] ?_ ?_ ?_
      · intro i v w w' _ h hk
        refine stabL_get ?_ i v w w' h hk
        exact stab_cons st_e (stab_cons st_e (stab_cons st_i (stab_cons st_i (stab_cons st_e (stab_cons st_q stab_nil)))))
      · intro i hi vs w3 hk3 hd
        have S3 := S.drew.below hk3
        have a0 := S3.c 1 0 rfl rfl
        have a1 := S3.c 1 1 rfl rfl
        have a2 := S3.c 0 0 rfl rfl
        have a3 := S3.c 0 1 rfl rfl
        have a4 := S3.c 0 2 rfl rfl
        have a5 := S3.c 0 3 rfl rfl
        match i, hi with
        | 0, _ =>
          refine step_val0 [] (fun vΦ _ => vΦ = .agg #[.bool b7, .slice A7 n7 c7, .bool d7, .slice B7 m7 e7]) rfl (by kernel_rfl) rfl (fun _ _ h => h) rfl fun K hK => ?_; clear hd; simp only [frD] at hK ⊢; go_simp
          exact hK _ _ (Below.refl _ _) rfl
        | 1, _ =>
          refine step_val0 [] (fun vΦ _ => vΦ = .agg #[.bool b6, .slice A6 n6 c6]) rfl (by kernel_rfl) rfl (fun _ _ h => h) rfl fun K hK => ?_; clear hd; simp only [frD] at hK ⊢; go_simp
          exact hK _ _ (Below.refl _ _) rfl
        | 2, _ =>
          refine step_val0 [] (fun vΦ wΦ => IntRep wΦ vΦ (1)) rfl (by kernel_rfl) rfl (fun _ _ h => h) rfl fun K hK => ?_; clear hd; simp only [frD] at hK ⊢; go_simp
          refine ((whole_int 1 (by omega) (by omega))).mono ?_; rintro e w4 ⟨U, rfl, hr, hk4⟩; exact hK _ _ hk4 hr
        | 3, _ =>
          have e1 : (vs 1) = .agg #[.bool b6, .slice A6 n6 c6] := hd 1 (cm (by kernel_rfl)); have h2 : IntRep w3 (vs 2) (1) := hd 2 (cm (by kernel_rfl))
          refine step_val0 [(1, some 46), (2, some 47)] (fun vΦ wΦ => IntRep wΦ vΦ (((r : Int)) + 1)) rfl (by kernel_rfl) rfl (fun _ _ h => h) rfl fun K hK => ?_; clear hd; simp only [frD, e1] at hK ⊢; go_simp
          refine ((radd_num ((S3.ii 1 rfl).num (by omega)) (h2.num (by omega)))).mono ?_; rintro e w4 ⟨U, rfl, hr, hk4⟩; exact hK _ _ hk4 hr
        | 4, _ =>
          refine step_val0 [] (fun vΦ _ => vΦ = .int .i64 k) rfl (by kernel_rfl) rfl (fun _ _ h => h) rfl fun K hK => ?_; clear hd; simp only [frD] at hK ⊢; go_simp
          exact hK _ _ (Below.refl _ _) rfl
        | 5, _ =>
          have h3 : IntRep w3 (vs 3) (((r : Int)) + 1) := hd 3 (cm (by kernel_rfl)); have e4 : (vs 4) = .int .i64 k := hd 4 (cm (by kernel_rfl))
          refine step_val0 [(3, some 48), (4, some 49)] (fun vΦ wΦ => RatRep wΦ vΦ (Rat.divInt ((r : Int) + 1) P)) rfl (by kernel_rfl) rfl (fun _ _ h => h) rfl fun K hK => ?_; clear hd; simp only [frD, e4] at hK ⊢; go_simp
          refine ((gpart_num h3 (by omega) h0 hk1 hP)).mono ?_; rintro e w4 ⟨U, rfl, hr, hk4⟩; exact hK _ _ hk4 hr
        | i + 6, hi => exact absurd hi (by omega)
      · intro vs W12 hk3 hΦ _
        simp only [List.drop_succ_cons, List.drop_zero]
        rw [fr_frD, show (List.range 6).map _ = [(0, some 45), (1, some 46), (2, some 47), (3, some 48), (4, some 49), (5, some 50)] by kernel_rfl]
        have pc0 : (vs 0) = .agg #[.bool b7, .slice A7 n7 c7, .bool d7, .slice B7 m7 e7] := hΦ 0 (by decide)
        have pc1 : (vs 1) = .agg #[.bool b6, .slice A6 n6 c6] := hΦ 1 (by decide)
        have pc2 : IntRep W12 (vs 2) (1) := hΦ 2 (by decide)
        have pc3 : IntRep W12 (vs 3) (((r : Int)) + 1) := hΦ 3 (by decide)
        have pc4 : (vs 4) = .int .i64 k := hΦ 4 (by decide)
        have pc5 : RatRep W12 (vs 5) (Rat.divInt ((r : Int) + 1) P) := hΦ 5 (by decide)
        clear hΦ
        simp only [frD, pc0, pc1, pc4]
        simp only [Act.put, List.setIfInBounds_toArray, List.set_cons_zero, List.set_cons_succ]
        clear pc0 pc1 pc4
        generalize vs 2 = Upc2 at pc2 ⊢
        generalize vs 3 = Upc3 at pc3 ⊢
        generalize vs 5 = Upc5 at pc5 ⊢
        replace S := S.drew.below hk3
        clear pc2
        clear pc3
        obtain ⟨b8, A8, n8, c8, d8, B8, m8, e8, rfl⟩ := pc5.open_
        replace S := S.addQ pc5
        clear pc5
        clear hk3
        have r1_0 := S.c 4 0 rfl rfl
        have f1_0 := S.f 4 0 rfl
        have r1_1 := S.c 4 1 rfl rfl
        have f1_1 := S.f 4 1 rfl
        have r1_2 := S.c 4 2 rfl rfl
        have f1_2 := S.f 4 2 rfl
        have r1_3 := S.c 4 3 rfl rfl
        have f1_3 := S.f 4 3 rfl
        have r2_0 := S.c 3 0 rfl rfl
        have f2_0 := S.f 3 0 rfl
        have r2_1 := S.c 3 1 rfl rfl
        have f2_1 := S.f 3 1 rfl
        have r2_2 := S.c 3 2 rfl rfl
        have f2_2 := S.f 3 2 rfl
        have r2_3 := S.c 3 3 rfl rfl
        have f2_3 := S.f 3 3 rfl
        go_wp2
        replace S := ((S.put4 4 rfl rfl rfl (x' := .bool b7) (y' := .slice A7 n7 c7) (z' := .bool d7) (u' := .slice B7 m7 e7)).put4 3 rfl rfl rfl (x' := .bool b8) (y' := .slice A8 n8 c8) (z' := .bool d8) (u' := .slice B8 m8 e8))
        refine bodyPost_ret (v := .tuple #[.agg #[.bool b7, .slice A7 n7 c7, .bool d7, .slice B7 m7 e7], .agg #[.bool b8, .slice A8 n8 c8, .bool d8, .slice B8 m8 e8], .int .i64 0]) (by simp [results, Tryz.results38, go_sem, S.c 4 0 rfl rfl, S.c 4 1 rfl rfl, S.c 4 2 rfl rfl, S.c 4 3 rfl rfl, S.c 3 0 rfl rfl, S.c 3 1 rfl rfl, S.c 3 2 rfl rfl, S.c 3 3 rfl rfl]) rfl ?_
        exact ⟨_, _, rfl, S.qi 1 rfl, S.qi 0 rfl, S.k⟩
/-- the next multiple above, both ways -/
theorem upR_eq {x : Rat} {P : Int} {r : Nat} (hP : 0 < P) (hr : IsRoot (x * (P : Rat) * (P : Rat)).floor r) (hx : 0 ≤ (x * (P : Rat) * (P : Rat)).floor) :
    (Rat.divInt (r : Int) P * Rat.divInt (r : Int) P = x → upR r (x * (P : Rat) * (P : Rat)) = r) ∧ (Rat.divInt (r : Int) P * Rat.divInt (r : Int) P ≠ x → upR r (x * (P : Rat) * (P : Rat)) = (r : Int) + 1) := by
  have e1 := divInt_mul (z := (r : Int)) hP
  unfold IsRoot at hr
  rw [if_neg (by omega)] at hr
  have e2 := floor_sq hr.1
  have e3 : (((r : Int) * r : Int) : Rat) = Rat.divInt (r : Int) P * Rat.divInt (r : Int) P * ((P : Rat) * (P : Rat)) := by
    rw [Rat.intCast_mul, ← e1]; grind
  unfold upR
  refine ⟨fun h => if_neg ?_, fun h => if_pos ?_⟩
  · rw [e3, h, ← Rat.mul_assoc]; exact Rat.lt_irrefl
  · refine Classical.byContradiction fun hlt => h ?_
    have h1 := Rat.le_antisymm e2 (Rat.not_lt.1 hlt)
    have a : (0 : Rat) < (P : Rat) := by rw [← Rat.intCast_zero]; exact Rat.intCast_lt_intCast.2 hP
    have aa : (0 : Rat) < (P : Rat) * (P : Rat) := Rat.mul_pos a a
    rw [e3, Rat.mul_assoc x] at h1
    exact Rat.le_antisymm ((mul_iff aa).1 (by rw [h1]; exact Rat.le_refl)) ((mul_iff aa).1 (by rw [h1]; exact Rat.le_refl))
end Go.Proofs.YtmochehkkadjnaaGreatDoor
