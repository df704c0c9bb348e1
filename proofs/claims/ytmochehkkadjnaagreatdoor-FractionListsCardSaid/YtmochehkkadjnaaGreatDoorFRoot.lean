/- The walk of fraction.Root. -/
import Derived.Test.YtmochehkkadjnaaGreatDoorFPlace
namespace Go.Proofs.YtmochehkkadjnaaGreatDoor
open Go.RowKit Go.Shelf

theorem root_rep {w : World} {V : Value} {z : Int} (h : IntRep w V z) (hl : lenI z ≤ 400000) (h0 : 0 ≤ z) :
    Calls Tryz.prog 96 #[V] w fun e w' => ∃ (Q : Value) (s : Nat), e = .returned (.tuple #[Q, .int .i64 0]) ∧ IntRep w' Q (s : Int) ∧ IsRoot z s ∧ Keeps w w' := by
  have := root_any _ _ V w h.arg hl
  rw [cnt_rep] at this
  unfold RootRes at this
  rwa [if_neg (by omega)] at this
theorem isRoot_len {z : Int} {s : Nat} (h0 : 0 ≤ z) (h : IsRoot z s) : lenI (s : Int) ≤ lenI z := by
  unfold IsRoot at h
  rw [if_neg (by omega)] at h
  refine lenR_mono ?_
  have : (s : Int) * 1 ≤ (s : Int) * s ∨ s = 0 := by
    rcases Nat.eq_zero_or_pos s with h0 | h0
    · exact .inr h0
    · exact .inl (Int.mul_le_mul_of_nonneg_left (by omega) (by omega))
  omega
def upR (s : Nat) (y : Rat) : Int := if (((s : Int) * s : Int) : Rat) < y then (s : Int) + 1 else s
def RtGives (y : Rat) (P : Int) (w : World) (e : Ending) (w' : World) : Prop :=
  ∃ (s : Nat) (Q R : Value), IsRoot y.floor s ∧ e = .returned (.tuple #[Q, R, .int .i64 0]) ∧ RatRep w' Q (Rat.divInt s P) ∧ RatRep w' R (Rat.divInt (upR s y) P) ∧ Keeps w w'
theorem sign_nn {x : Rat} (h : 0 ≤ x) : 0 ≤ x.num.sign := by
  have h1 : 0 ≤ x.num := Rat.num_nonneg.2 h
  rcases Int.lt_or_eq_of_le h1 with h2 | h2
  · rw [Int.sign_eq_one_of_pos h2]; omega
  · rw [← h2]; decide
theorem two_pos (n : Nat) (P : Int) (hP : (2 : Int) ^ n = P) : 0 < P := by rw [← hP]; exact Int.pow_pos (by omega)
set_option maxRecDepth 100000 in
set_option maxHeartbeats 4000000 in
theorem froot_num {w : World} {V1 : Value} {x : Rat} {k : Int} (h1 : RatNum w V1 x) (hx : szR x ≤ 30000) (ht : PowTab w) (h0 : 0 ≤ k) (h2 : k ≤ 512) (hx0 : 0 ≤ x) {P : Int} (hP : (2 : Int) ^ k.toNat = P) :
    Calls Tryz.prog 37 #[V1, .int .i64 k] w (RtGives (x * (P : Rat) * (P : Rat)) P w) := by
  obtain ⟨b1, A1, n1, c1, d1, B1, m1, e1, rfl⟩ := h1.open_
  have S := (((St.start w).alloc 28 [.bool b1, .slice A1 n1 c1, .bool d1, .slice B1 m1 e1]).alloc 28 [.bool false, .slice none 0 0, .bool false, .slice none 0 0]).alloc 28 [.bool false, .slice none 0 0, .bool false, .slice none 0 0]
  simp only [World.size_alloc] at S
  obtain ⟨sg, hs⟩ : ∃ sg, x.num.sign = sg := ⟨_, rfl⟩
  have hsg := sign_nn hx0
  rw [hs] at hsg
  have HS := Lib.hid hs
  have HB := Lib.hid (fscaled_num (k := k) (h1.below S.k) (ht.keep S.k) h0 h2 hP)
  have hsz := szR_scaled x k.toNat P hP (by omega)
  have lp := lenI_two k.toNat
  rw [hP] at lp
  have sp := szR_int P
  have HN := Lib.hid (two_ne k.toNat P hP)
  have hPp := two_pos k.toNat P hP
  have hz0 : 0 ≤ (x * (P : Rat) * (P : Rat)).floor := by
    rw [Rat.le_floor_iff]
    have hp : (0 : Rat) ≤ (P : Rat) := Rat.intCast_nonneg.2 (by omega)
    exact Rat.mul_nonneg (Rat.mul_nonneg hx0 hp) hp
  have hsz2 := szR_mul (x * (P : Rat)) (P : Rat)
  generalize x * (P : Rat) = y at *
  generalize hzz : y * (P : Rat) = z at *
  have HZ := Lib.hid hzz
  clear hzz
  have lz := lenI_floor z
  have lz2 := szR_num (Nat.le_refl (szR z))
  have hk5 : k.toNat ≤ 512 := by omega
  clear hP hs hx0 h0 h2 hPp
  go_enter Tryz.func37, Tryz.ntmps37
  go_wp2_with fail
  refine HB.out.mono ?_
  rintro e W1 ⟨Q, U, rfl, hq, hp, hk⟩
  obtain ⟨b3, A3, n3, c3, d3, B3, m3, e3, rfl⟩ := hq.open_
  obtain ⟨b4, A4, n4, c4, rfl⟩ := hp.open3
  replace S := ((((S.below hk).addQ hq).addI hp).alloc 28 [.bool b3, .slice A3 n3 c3, .bool d3, .slice B3 m3 e3]).alloc 24 [.bool b4, .slice A4 n4 c4]
  simp only [World.size_alloc] at S
  clear hk HB hq hp
  go_upto_region 2 with fail
  generalize hB : W1.heap.size = B at *
  generalize hW : (W1.alloc (.cells #[.bool b3, .slice A3 n3 c3, .bool d3, .slice B3 m3 e3] 28)).alloc (.cells #[.bool b4, .slice A4 n4 c4] 24) = W3 at *
  clear hB hW
  have r4_0 := S.c 4 0 rfl rfl
  have r4_1 := S.c 4 1 rfl rfl
  have r4_2 := S.c 4 2 rfl rfl
  have r4_3 := S.c 4 3 rfl rfl
  go_wp2_with fail
  refine (fsign_s (h1.below S.k) HS.out).mono ?_
  rintro e W4 ⟨rfl, hk⟩
  replace S := S.below hk
  have t1 : decide (sg < 0) = false := decide_eq_false (by omega)
  clear hk r4_0 r4_1 r4_2 r4_3 h1 HS
  go_upto_region 4 with fail
  obtain ⟨W3, rfl⟩ : ∃ W : World, W = W4 := ⟨_, rfl⟩
  refine wp_region_steps (m := 5) rfl (by kernel_rfl) (fun iΦ vΦ wΦ => (List.getD [fun vΦ _ => vΦ = .agg #[.bool b3, .slice A3 n3 c3, .bool d3, .slice B3 m3 e3], fun vΦ _ => vΦ = .agg #[.bool b4, .slice A4 n4 c4], fun vΦ wΦ => IntRep wΦ vΦ (1), fun vΦ wΦ => RatRep wΦ vΦ (P : Rat), fun vΦ wΦ => RatRep wΦ vΦ (z)] iΦ (fun _ _ => True)) vΦ wΦ) [] ?_ ?_ ?_
  · intro i v w w' hi h hk
    rcases (show i = 0 ∨ i = 1 ∨ i = 2 ∨ i = 3 ∨ i = 4 by omega) with rfl | rfl | rfl | rfl | rfl
    all_goals simp only [gz, gs] at h ⊢
    all_goals first | exact h | exact IntRep.below h hk | exact RatRep.below h hk
  · intro i hi vs w3 hk3 hd
    have S3 := S.drew.below hk3
    have a0 := S3.c 1 0 rfl rfl
    have a1 := S3.c 1 1 rfl rfl
    have a2 := S3.c 1 2 rfl rfl
    have a3 := S3.c 1 3 rfl rfl
    have a4 := S3.c 0 0 rfl rfl
    have a5 := S3.c 0 1 rfl rfl
    match i, hi with
    | 0, _ =>
      refine step_yes [] rfl (by kernel_rfl) fun K hK => ?_; simp only [frD] at hK ⊢; refine ⟨by rfl, ?_⟩; go_simp
      exact hK _ _ ⟨Below.refl _ _, rfl, by simp⟩
    | 1, _ =>
      refine step_yes [] rfl (by kernel_rfl) fun K hK => ?_; simp only [frD] at hK ⊢; refine ⟨by rfl, ?_⟩; go_simp
      exact hK _ _ ⟨Below.refl _ _, rfl, by simp⟩
    | 2, _ =>
      refine step_yes [] rfl (by kernel_rfl) fun K hK => ?_; simp only [frD] at hK ⊢; refine ⟨by rfl, ?_⟩; go_simp
      refine (of_num 1 (by omega) (by omega)).mono ?_; rintro e w4 ⟨U, rfl, hr, hk4⟩; exact hK _ _ ⟨hk4, hr, by simp⟩
    | 3, _ =>
      have e1 := hd 1 (cm (by kernel_rfl)); simp only [gz, gs] at e1; have h2 := hd 2 (cm (by kernel_rfl)); simp only [gz, gs] at h2; obtain ⟨b9, A9, n9, c9, q9⟩ := h2.open3
      refine step_yes [(1, some 29), (2, some 30)] rfl (by kernel_rfl) fun K hK => ?_; simp only [frD, e1, q9] at hK ⊢; refine ⟨by rfl, ?_⟩; go_simp
      rw [q9] at h2
      exact hK _ _ ⟨Below.refl _ _, RatRep.whole (S3.ii 0 rfl) h2, by simp⟩
    | 4, _ =>
      have e0 := hd 0 (cm (by kernel_rfl)); simp only [gz] at e0; have h2 := hd 2 (cm (by kernel_rfl)); simp only [gz, gs] at h2; have h3 := hd 3 (cm (by kernel_rfl)); simp only [gz, gs] at h3
      refine step_yes [(0, some 28), (2, some 30), (3, some 31)] rfl (by kernel_rfl) fun K hK => ?_; simp only [frD, e0] at hK ⊢; refine ⟨by rfl, ?_⟩; go_simp
      refine (rgives_eq (fmul_num ((S3.qi 1 rfl).num (by omega)) (h3.num (by omega))) HZ.out).mono ?_; rintro e w4 ⟨U, rfl, hr, hk4⟩; exact hK _ _ ⟨hk4, hr, by simp⟩
    | i + 5, hi => exact absurd hi (by omega)
  · intro vs wpc hk3 hΦ _
    simp only [List.drop_succ_cons, List.drop_zero]
    rw [fr_frD, show (List.range 5).map _ = [(0, some 28), (1, some 29), (2, some 30), (3, some 31), (4, some 32)] by kernel_rfl]
    have pc0 := hΦ 0 (by omega); simp only [gz] at pc0
    have pc1 := hΦ 1 (by omega); simp only [gz, gs] at pc1
    have pc2 := hΦ 2 (by omega); simp only [gz, gs] at pc2
    have pc3 := hΦ 3 (by omega); simp only [gz, gs] at pc3
    have pc4 := hΦ 4 (by omega); simp only [gz, gs] at pc4
    clear hΦ
    simp only [frD, pc0, pc1]
    simp only [Act.put, List.setIfInBounds_toArray, List.set_cons_zero, List.set_cons_succ]
    clear pc0 pc1
    generalize vs 2 = U2 at pc2 ⊢
    generalize vs 3 = U3 at pc3 ⊢
    generalize vs 4 = U4 at pc4 ⊢
    replace S := S.drew.below hk3
    obtain ⟨b5, A5, n5, c5, d5, B5, m5, e5, rfl⟩ := pc4.open_
    replace S := S.addQ pc4
    clear pc2 pc3 pc4 hk3
    have r1_0 := S.c 1 0 rfl rfl
    have r1_1 := S.c 1 1 rfl rfl
    have r1_2 := S.c 1 2 rfl rfl
    have r1_3 := S.c 1 3 rfl rfl
    have f1_0 := S.f 1 0 rfl
    have f1_1 := S.f 1 1 rfl
    have f1_2 := S.f 1 2 rfl
    have f1_3 := S.f 1 3 rfl
    go_upto_region 5 with fail
    replace S := S.put4 1 rfl rfl rfl (x' := .bool b5) (y' := .slice A5 n5 c5) (z' := .bool d5) (u' := .slice B5 m5 e5)
    generalize (((wpc.setCell ⟨B, 0, none⟩ (.bool b5)).setCell ⟨B, 1, none⟩ (.slice A5 n5 c5)).setCell ⟨B, 2, none⟩ (.bool d5)).setCell ⟨B, 3, none⟩ (.slice B5 m5 e5) = W5 at S ⊢
    clear r1_0 r1_1 r1_2 r1_3 f1_0 f1_1 f1_2 f1_3
    have r1_0 := S.c 1 0 rfl rfl
    have r1_1 := S.c 1 1 rfl rfl
    have r1_2 := S.c 1 2 rfl rfl
    have r1_3 := S.c 1 3 rfl rfl
    go_wp2_with fail
    refine (ffloor_num ((S.qi 0 rfl).num (by omega))).mono ?_
    rintro e W6 ⟨U6, rfl, hp, hk⟩
    replace S := (S.below hk).addI hp
    clear hk hp r1_0 r1_1 r1_2 r1_3
    go_wp2_with fail
    refine (root_rep (S.ii 0 rfl) (by omega) hz0).mono ?_
    rintro e W7 ⟨U7, s, rfl, hp, hR, hk⟩
    have ls := isRoot_len hz0 hR
    have HR := Lib.hid hR
    obtain ⟨b6, A6, n6, c6, rfl⟩ := hp.open3
    have ltB : B + 1 < W7.heap.size := ((S.below hk).o 0 rfl).lt
    replace S := ((S.below hk).addN (hp.num (by omega))).alloc 24 [.bool b6, .slice A6 n6 c6]
    clear hk hp hR hz0
    go_upto_region 6 with fail
    generalize hC : W7.heap.size = C at *
    generalize hW : W7.alloc (.cells #[.bool b6, .slice A6 n6 c6] 24) = W8 at *
    clear hC hW
    have r0_0 := S.c 0 0 rfl rfl
    have r0_1 := S.c 0 1 rfl rfl
    have ltC : C < W8.heap.size := (S.o 0 rfl).lt
    go_upto_region 7 with fail
    replace S := S.alloc 24 [.bool b6, .slice A6 n6 c6]
    generalize hD : W8.heap.size = D at *
    generalize hW : W8.alloc (.cells #[.bool b6, .slice A6 n6 c6] 24) = W9 at *
    clear hD hW r0_0 r0_1
    have lm := lenI_mul s s
    have sm := szR_int ((s : Int) * s)
    have la := lenI_add s 1
    have l1 := lenI_one
    obtain ⟨cp, hcp⟩ : ∃ cp, cmpR (((s : Int) * s : Int) : Rat) z = cp := ⟨_, rfl⟩
    have HCP := Lib.hid hcp
    replace S := S.drew
    go_region_held3 (fun w' => w'.cell? ⟨C, 0, none⟩ = some (.bool b6) ∧ w'.cell? ⟨C, 1, none⟩ = some (.slice A6 n6 c6) ∧ w'.cell? ⟨B, 0, none⟩ = some (.bool b5) ∧ w'.cell? ⟨B, 1, none⟩ = some (.slice A5 n5 c5) ∧ w'.cell? ⟨B, 2, none⟩ = some (.bool d5) ∧ w'.cell? ⟨B, 3, none⟩ = some (.slice B5 m5 e5))
      (with_reducible exact ⟨S.c 1 0 rfl rfl, S.c 1 1 rfl rfl, S.c 3 0 rfl rfl, S.c 3 1 rfl rfl, S.c 3 2 rfl rfl, S.c 3 3 rfl rfl⟩)
      (first
        | (go_at_call 93; refine (mul_num (S.ni 0 rfl) (S.ni 0 rfl)).mono ?_; rintro e W10 ⟨U10, rfl, hp, hk⟩; obtain ⟨b7, A7, n7, c7, rfl⟩ := hp.open3; replace S := (S.below hk).addI hp)
        | (go_at_call 84; refine (of_num 1 (by omega) (by omega)).mono ?_; rintro e W11 ⟨U11, rfl, hp2, hk2⟩; obtain ⟨b8, A8, n8, c8, rfl⟩ := hp2.open3; replace S := (S.below hk2).addI hp2)
        | (go_at_call 32; refine (fcompare_s ((RatRep.whole (S.ii 1 rfl) (S.ii 0 rfl)).num (by omega)) ((S.qi 4 rfl).num (by omega)) HCP.out).mono ?_; rintro e W12 ⟨rfl, hk3⟩; replace S := S.below hk3))
    have HM := Lib.hid (rfl : (0 : Int) = 0)
    clear HM
    by_cases hlt : cp < 0
    · have t2 : decide (cp < 0) = true := decide_eq_true hlt
      have HU := Lib.hid (show upR s z = (s : Int) + 1 from if_pos ((cmpR_lt _ _).1 (by rw [hcp]; exact hlt)))
      clear hcp HCP
      go_upto_region 8 with fail
      replace S := S.drew
      go_region_held3 (fun w' => w'.cell? ⟨C, 0, none⟩ = some (.bool b6) ∧ w'.cell? ⟨C, 1, none⟩ = some (.slice A6 n6 c6))
        (first
          | with_reducible exact ⟨S.c 1 0 rfl rfl, S.c 1 1 rfl rfl⟩
          | with_reducible exact ⟨(S.put2 0 rfl rfl rfl).c 1 0 rfl rfl, (S.put2 0 rfl rfl rfl).c 1 1 rfl rfl⟩)
        (first
          | (go_at_call 84; refine (of_num 1 (by omega) (by omega)).mono ?_; rintro e W13 ⟨U13, rfl, hp4, hk4⟩; replace S := (S.below hk4).addN (hp4.num (by omega)))
          | (go_at_call 92; refine (add_num (S.ni 3 rfl) (S.ni 0 rfl)).mono ?_; rintro e W14 ⟨U14, rfl, hp5, hk5'⟩; obtain ⟨bm, Am, nm, cm, rfl⟩ := hp5.open3; replace S := (S.below hk5').addN (hp5.num (by omega)); have r0_0 := S.c 0 0 rfl rfl; have r0_1 := S.c 0 1 rfl rfl; have f0_0 := S.f 0 0 rfl; have f0_1 := S.f 0 1 rfl))
      all_goals
        replace S := S.put2 0 rfl rfl rfl (x' := .bool bm) (y' := .slice Am nm cm)
        clear r0_0 r0_1 f0_0 f0_1
        go_upto_region 9 with fail
        generalize (W14.setCell ⟨D, 0, none⟩ (.bool bm)).setCell ⟨D, 1, none⟩ (.slice Am nm cm) = W15 at S ⊢
        have tok1 : True := trivial
        replace S := S.drew
        go_region_held3 (fun w' => w'.cell? ⟨C, 0, none⟩ = some (.bool b6) ∧ w'.cell? ⟨C, 1, none⟩ = some (.slice A6 n6 c6) ∧ w'.cell? ⟨B + 1, 0, none⟩ = some (.bool b4) ∧ w'.cell? ⟨B + 1, 1, none⟩ = some (.slice A4 n4 c4) ∧ w'.cell? ⟨D, 0, none⟩ = some (.bool bm) ∧ w'.cell? ⟨D, 1, none⟩ = some (.slice Am nm cm))
          (first
            | with_reducible exact ⟨S.c 1 0 rfl rfl, S.c 1 1 rfl rfl, S.c 2 0 rfl rfl, S.c 2 1 rfl rfl, S.c 0 0 rfl rfl, S.c 0 1 rfl rfl⟩
            | with_reducible exact ⟨(S.put4 5 rfl rfl rfl).c 1 0 rfl rfl, (S.put4 5 rfl rfl rfl).c 1 1 rfl rfl, (S.put4 5 rfl rfl rfl).c 2 0 rfl rfl, (S.put4 5 rfl rfl rfl).c 2 1 rfl rfl, (S.put4 5 rfl rfl rfl).c 0 0 rfl rfl, (S.put4 5 rfl rfl rfl).c 0 1 rfl rfl⟩
            | with_reducible exact ⟨((S.put4 5 rfl rfl rfl).put4 4 rfl rfl rfl).c 1 0 rfl rfl, ((S.put4 5 rfl rfl rfl).put4 4 rfl rfl rfl).c 1 1 rfl rfl, ((S.put4 5 rfl rfl rfl).put4 4 rfl rfl rfl).c 2 0 rfl rfl, ((S.put4 5 rfl rfl rfl).put4 4 rfl rfl rfl).c 2 1 rfl rfl, ((S.put4 5 rfl rfl rfl).put4 4 rfl rfl rfl).c 0 0 rfl rfl, ((S.put4 5 rfl rfl rfl).put4 4 rfl rfl rfl).c 0 1 rfl rfl⟩)
          (first
            | (go_at_call 81; have _t := tok1; refine (reduced_num (S.ni 4 rfl) ((S.ii 7 rfl).num (by omega)) HN.out).mono ?_; rintro e W11 ⟨U11, rfl, hp, hk⟩; clear tok1 _t; obtain ⟨b8, A8, n8, c8, d8, B8, m8, e8, rfl⟩ := hp.open_; replace S := (S.below hk).addQ hp; have tok2 : True := trivial)
            | (go_at_call 81; have _t := tok2; refine (reduced_num (S.ni (0 + 1) rfl) ((S.ii (7 + 1) rfl).num (by omega)) HN.out).mono ?_; rintro e W12 ⟨U12, rfl, hp2, hk2⟩; clear tok2 _t; obtain ⟨b9, A9, n9, c9, d9, B9, m9, e9, rfl⟩ := hp2.open_; replace S := (S.below hk2).addQ hp2; have r5_0 := S.c 5 0 rfl rfl; have r5_1 := S.c 5 1 rfl rfl; have r5_2 := S.c 5 2 rfl rfl; have r5_3 := S.c 5 3 rfl rfl; have f5_0 := S.f 5 0 rfl; have f5_1 := S.f 5 1 rfl; have f5_2 := S.f 5 2 rfl; have f5_3 := S.f 5 3 rfl; have r4_0 := S.c 4 0 rfl rfl; have r4_1 := S.c 4 1 rfl rfl; have r4_2 := S.c 4 2 rfl rfl; have r4_3 := S.c 4 3 rfl rfl; have f4_0 := S.f 4 0 rfl; have f4_1 := S.f 4 1 rfl; have f4_2 := S.f 4 2 rfl; have f4_3 := S.f 4 3 rfl))
        all_goals
          go_wp2
          replace S := (S.put4 5 rfl rfl rfl (x' := .bool b8) (y' := .slice A8 n8 c8) (z' := .bool d8) (u' := .slice B8 m8 e8)).put4 4 rfl rfl rfl (x' := .bool b9) (y' := .slice A9 n9 c9) (z' := .bool d9) (u' := .slice B9 m9 e9)
          refine bodyPost_ret (v := .tuple #[.agg #[.bool b8, .slice A8 n8 c8, .bool d8, .slice B8 m8 e8], .agg #[.bool b9, .slice A9 n9 c9, .bool d9, .slice B9 m9 e9], .int .i64 0]) (by simp [results, Tryz.results37, go_sem, S.c 5 0 rfl rfl, S.c 5 1 rfl rfl, S.c 5 2 rfl rfl, S.c 5 3 rfl rfl, S.c 4 0 rfl rfl, S.c 4 1 rfl rfl, S.c 4 2 rfl rfl, S.c 4 3 rfl rfl]) rfl ?_
          exact ⟨s, _, _, HR.out, rfl, S.qi 1 rfl, by rw [HU.out]; exact S.qi 0 rfl, S.k⟩
    · have t2 : decide (cp < 0) = false := decide_eq_false hlt
      have HU := Lib.hid (show upR s z = (s : Int) from if_neg (fun h => hlt (by rw [← hcp]; exact (cmpR_lt _ _).2 h)))
      clear hcp HCP
      go_upto_region 9 with fail
      have tok1 : True := trivial
      replace S := S.drew
      go_region_held3 (fun w' => w'.cell? ⟨C, 0, none⟩ = some (.bool b6) ∧ w'.cell? ⟨C, 1, none⟩ = some (.slice A6 n6 c6) ∧ w'.cell? ⟨B + 1, 0, none⟩ = some (.bool b4) ∧ w'.cell? ⟨B + 1, 1, none⟩ = some (.slice A4 n4 c4) ∧ w'.cell? ⟨D, 0, none⟩ = some (.bool b6) ∧ w'.cell? ⟨D, 1, none⟩ = some (.slice A6 n6 c6))
        (first
          | with_reducible exact ⟨S.c 1 0 rfl rfl, S.c 1 1 rfl rfl, S.c 2 0 rfl rfl, S.c 2 1 rfl rfl, S.c 0 0 rfl rfl, S.c 0 1 rfl rfl⟩
          | with_reducible exact ⟨(S.put4 5 rfl rfl rfl).c 1 0 rfl rfl, (S.put4 5 rfl rfl rfl).c 1 1 rfl rfl, (S.put4 5 rfl rfl rfl).c 2 0 rfl rfl, (S.put4 5 rfl rfl rfl).c 2 1 rfl rfl, (S.put4 5 rfl rfl rfl).c 0 0 rfl rfl, (S.put4 5 rfl rfl rfl).c 0 1 rfl rfl⟩
          | with_reducible exact ⟨((S.put4 5 rfl rfl rfl).put4 4 rfl rfl rfl).c 1 0 rfl rfl, ((S.put4 5 rfl rfl rfl).put4 4 rfl rfl rfl).c 1 1 rfl rfl, ((S.put4 5 rfl rfl rfl).put4 4 rfl rfl rfl).c 2 0 rfl rfl, ((S.put4 5 rfl rfl rfl).put4 4 rfl rfl rfl).c 2 1 rfl rfl, ((S.put4 5 rfl rfl rfl).put4 4 rfl rfl rfl).c 0 0 rfl rfl, ((S.put4 5 rfl rfl rfl).put4 4 rfl rfl rfl).c 0 1 rfl rfl⟩)
        (first
          | (go_at_call 81; have _t := tok1; refine (reduced_num (S.ni 2 rfl) ((S.ii 5 rfl).num (by omega)) HN.out).mono ?_; rintro e W11 ⟨U11, rfl, hp, hk⟩; clear tok1 _t; obtain ⟨b8, A8, n8, c8, d8, B8, m8, e8, rfl⟩ := hp.open_; replace S := (S.below hk).addQ hp; have tok2 : True := trivial)
          | (go_at_call 81; have _t := tok2; refine (reduced_num (S.ni (2 + 1) rfl) ((S.ii (5 + 1) rfl).num (by omega)) HN.out).mono ?_; rintro e W12 ⟨U12, rfl, hp2, hk2⟩; clear tok2 _t; obtain ⟨b9, A9, n9, c9, d9, B9, m9, e9, rfl⟩ := hp2.open_; replace S := (S.below hk2).addQ hp2; have r5_0 := S.c 5 0 rfl rfl; have r5_1 := S.c 5 1 rfl rfl; have r5_2 := S.c 5 2 rfl rfl; have r5_3 := S.c 5 3 rfl rfl; have f5_0 := S.f 5 0 rfl; have f5_1 := S.f 5 1 rfl; have f5_2 := S.f 5 2 rfl; have f5_3 := S.f 5 3 rfl; have r4_0 := S.c 4 0 rfl rfl; have r4_1 := S.c 4 1 rfl rfl; have r4_2 := S.c 4 2 rfl rfl; have r4_3 := S.c 4 3 rfl rfl; have f4_0 := S.f 4 0 rfl; have f4_1 := S.f 4 1 rfl; have f4_2 := S.f 4 2 rfl; have f4_3 := S.f 4 3 rfl))
      all_goals
        go_wp2
        replace S := (S.put4 5 rfl rfl rfl (x' := .bool b8) (y' := .slice A8 n8 c8) (z' := .bool d8) (u' := .slice B8 m8 e8)).put4 4 rfl rfl rfl (x' := .bool b9) (y' := .slice A9 n9 c9) (z' := .bool d9) (u' := .slice B9 m9 e9)
        refine bodyPost_ret (v := .tuple #[.agg #[.bool b8, .slice A8 n8 c8, .bool d8, .slice B8 m8 e8], .agg #[.bool b9, .slice A9 n9 c9, .bool d9, .slice B9 m9 e9], .int .i64 0]) (by simp [results, Tryz.results37, go_sem, S.c 5 0 rfl rfl, S.c 5 1 rfl rfl, S.c 5 2 rfl rfl, S.c 5 3 rfl rfl, S.c 4 0 rfl rfl, S.c 4 1 rfl rfl, S.c 4 2 rfl rfl, S.c 4 3 rfl rfl]) rfl ?_
        exact ⟨s, _, _, HR.out, rfl, S.qi 1 rfl, by rw [HU.out]; exact S.qi 0 rfl, S.k⟩
end Go.Proofs.YtmochehkkadjnaaGreatDoor
