/- The walks of fiducialref02.Neg, Sub, Compare, Same. -/
import Derived.Test.YtgcigdahjabimaaGreatDoorPr25
namespace Go.Proofs.YtgcigdahjabimaaGreatDoor
open Go.RowKit Go.Shelf

set_option maxRecDepth 100000 in
set_option maxHeartbeats 1000000 in
theorem gneg_num {w : World} {V1 : Value} {x : Rat} (h1 : RatNum w V1 x) : Calls Tryz.prog 96 #[V1] w (RGives (-x) w) := by
 obtain ⟨b1, A1, n1, c1, d1, B1, m1, e1, rfl⟩ := h1.open_
 have hx := h1.sz
 have S := ((St.start w).alloc 31 [.bool b1, .slice A1 n1 c1, .bool d1, .slice B1 m1 e1]).alloc 31 [.bool false, .slice none 0 0, .bool false, .slice none 0 0]
 simp only [World.size_alloc] at S
 go_enter Tryz.func96, Tryz.ntmps96
 go_wp2_with fail
 generalize (w.alloc (.cells #[.bool b1, .slice A1 n1 c1, .bool d1, .slice B1 m1 e1] 31)).alloc (.cells #[.bool false, .slice none 0 0, .bool false, .slice none 0 0] 31) = W at *
 refine (gvalue_num (h1.below S.k)).mono ?_
 rintro e W1 ⟨U, rfl, hp, hk⟩
 obtain ⟨b3, A3, n3, c3, d3, B3, m3, e3, rfl⟩ := hp.open_
 replace S := ((S.below hk).addQ hp).alloc 31 [.bool b3, .slice A3 n3 c3, .bool d3, .slice B3 m3 e3]
 clear hk hp
 go_upto_region 2 with fail
 generalize hB : W1.heap.size = P5 at *
 generalize hW : W1.alloc (.cells #[.bool b3, .slice A3 n3 c3, .bool d3, .slice B3 m3 e3] 31) = W4 at *
 clear hB hW
 have lx1 := szR_num hx
 refine wp_region_steps (m := 5) rfl (by kernel_rfl) (fun iF vF wF => (List.getD [fun vF _ => vF = .pointer (some ⟨P5, 0, none⟩), fun vF _ => vF = .agg #[.bool b3, .slice A3 n3 c3], fun vF wF => IntRep wF vF (-x.num), fun vF _ => vF = .pointer (some ⟨P5, 2, none⟩), fun vF _ => vF = .agg #[.bool d3, .slice B3 m3 e3]] iF (fun _ _ => True)) vF wF) [] ?_ ?_ ?_
 ·intro i v w w' hi h hk
  rcases (show i = 0 ∨ i = 1 ∨ i = 2 ∨ i = 3 ∨ i = 4 by omega) with rfl | rfl | rfl | rfl | rfl
  all_goals simp only [gz, gs] at h ⊢
  all_goals first | exact h | exact IntRep.below h hk | exact RatRep.below h hk
 ·intro i hi vs w3 hk3 hd
  have S3 := S.drew.below hk3
  obtain ⟨a0, a1, a2, a3⟩ := S3.cc4 0 rfl
  match i, hi with
  | 0, _ =>
   refine step_yes [] rfl (by kernel_rfl) fun K hK => ?_; simp only [frD] at hK ⊢; refine ⟨by rfl, ?_⟩; go_simp
   exact hK _ _ ⟨Below.refl _ _, rfl, by simp⟩
  | 1, _ =>
   have e0 := hd 0 (cm (by kernel_rfl)); simp only [gz] at e0
   refine step_yes [(0, some 6)] rfl (by kernel_rfl) fun K hK => ?_; simp only [frD, e0] at hK ⊢; refine ⟨by rfl, ?_⟩; go_simp
   exact hK _ _ ⟨Below.refl _ _, rfl, by simp⟩
  | 2, _ =>
   have e1 := hd 1 (cm (by kernel_rfl)); simp only [gz, gs] at e1
   refine step_yes [(1, some 7)] rfl (by kernel_rfl) fun K hK => ?_; simp only [frD, e1] at hK ⊢; refine ⟨by rfl, ?_⟩; go_simp
   refine (rneg_num ((S3.qi 0 rfl).nn hx)).mono ?_; rintro e w4 ⟨U, rfl, hr, hk4⟩; exact hK _ _ ⟨hk4, hr, by simp⟩
  | 3, _ =>
   refine step_yes [] rfl (by kernel_rfl) fun K hK => ?_; simp only [frD] at hK ⊢; refine ⟨by rfl, ?_⟩; go_simp
   exact hK _ _ ⟨Below.refl _ _, rfl, by simp⟩
  | 4, _ =>
   have e3 := hd 3 (cm (by kernel_rfl)); simp only [gz, gs] at e3
   refine step_yes [(3, some 9)] rfl (by kernel_rfl) fun K hK => ?_; simp only [frD, e3] at hK ⊢; refine ⟨by rfl, ?_⟩; go_simp
   exact hK _ _ ⟨Below.refl _ _, rfl, by simp⟩
  | i + 5, hi => exact absurd hi (by omega)
 ·intro vs wpb hk3 hΦ _
  simp only [List.drop_succ_cons, List.drop_zero]
  rw [fr_frD, show (List.range 5).map _ = [(0, some 6), (1, some 7), (2, some 8), (3, some 9), (4, some 10)] by kernel_rfl]
  have pb0 := hΦ 0 (by omega); simp only [gz] at pb0
  have pb1 := hΦ 1 (by omega); simp only [gz, gs] at pb1
  have pb2 := hΦ 2 (by omega); simp only [gz, gs] at pb2
  have pb3 := hΦ 3 (by omega); simp only [gz, gs] at pb3
  have pb4 := hΦ 4 (by omega); simp only [gz, gs] at pb4
  clear hΦ
  simp only [frD, pb0, pb1, pb3, pb4]
  simp only [Act.put, List.setIfInBounds_toArray, List.set_cons_zero, List.set_cons_succ]
  clear pb0 pb1 pb3 pb4
  generalize vs 2 = U2 at pb2 ⊢
  replace S := S.drew.below hk3
  obtain ⟨b5, A5, n5, c5, rfl⟩ := pb2.open3
  replace S := S.addI pb2
  clear pb2 hk3 h1
  obtain ⟨r1_0, r1_1, r1_2, r1_3⟩ := S.cc4 1 rfl
  obtain ⟨f1_0, f1_1, f1_2, f1_3⟩ := S.ff4 1 rfl
  go_wp2
  replace S := S.put4 1 rfl rfl rfl (x' := .bool b5) (y' := .slice A5 n5 c5) (z' := .bool d3) (u' := .slice B3 m3 e3)
  refine bodyPost_ret (v := .agg #[.bool b5, .slice A5 n5 c5, .bool d3, .slice B3 m3 e3]) (by simp [results, Tryz.results96, go_sem, S.c 1 0 rfl rfl, S.c 1 1 rfl rfl, S.c 1 2 rfl rfl, S.c 1 3 rfl rfl]) rfl ?_
  exact ⟨_, rfl, RatRep.mk (S.ii 0 rfl) (S.qi 1 rfl).d (Rat.neg_num x).symm (by rw [Rat.neg_den]), S.k⟩

set_option maxRecDepth 100000 in
set_option maxHeartbeats 1000000 in
theorem gsub_num {w : World} {V1 V2 : Value} {x y : Rat} (h1 : RatNum w V1 x) (h2 : RatNum w V2 y) : Calls Tryz.prog 50 #[V1, V2] w (RGives (x - y) w) := by
 obtain ⟨b1, A1, n1, c1, d1, B1, m1, e1, rfl⟩ := h1.open_
 obtain ⟨b2, A2, n2, c2, d2, B2, m2, e2, rfl⟩ := h2.open_
 have hx := h1.sz
 have hy := h2.sz
 have S := (((St.start w).alloc 31 [.bool b1, .slice A1 n1 c1, .bool d1, .slice B1 m1 e1]).alloc 31 [.bool b2, .slice A2 n2 c2, .bool d2, .slice B2 m2 e2]).alloc 31 [.bool false, .slice none 0 0, .bool false, .slice none 0 0]
 simp only [World.size_alloc] at S
 go_enter Tryz.func50, Tryz.ntmps50
 go_wp2_with fail
 generalize ((w.alloc (.cells #[.bool b1, .slice A1 n1 c1, .bool d1, .slice B1 m1 e1] 31)).alloc (.cells #[.bool b2, .slice A2 n2 c2, .bool d2, .slice B2 m2 e2] 31)).alloc (.cells #[.bool false, .slice none 0 0, .bool false, .slice none 0 0] 31) = W at *
 refine wp_region_steps (m := 4) rfl (by kernel_rfl) (fun iF vF wF => (List.getD [fun vF _ => vF = .agg #[.bool b1, .slice A1 n1 c1, .bool d1, .slice B1 m1 e1], fun vF _ => vF = .agg #[.bool b2, .slice A2 n2 c2, .bool d2, .slice B2 m2 e2], fun vF wF => RatRep wF vF (-y), fun vF wF => RatRep wF vF (x - y)] iF (fun _ _ => True)) vF wF) [] ?_ ?_ ?_
 ·intro i v w w' hi h hk
  rcases (show i = 0 ∨ i = 1 ∨ i = 2 ∨ i = 3 by omega) with rfl | rfl | rfl | rfl
  all_goals simp only [gz, gs] at h ⊢
  all_goals first | exact h | exact IntRep.below h hk | exact RatRep.below h hk
 ·intro i hi vs w3 hk3 hd
  have S3 := S.drew.below hk3
  obtain ⟨a0, a1, a2, a3⟩ := S3.cc4 2 rfl
  obtain ⟨a4, a5, a6, a7⟩ := S3.cc4 1 rfl
  match i, hi with
  | 0, _ =>
   refine step_yes [] rfl (by kernel_rfl) fun K hK => ?_; simp only [frD] at hK ⊢; refine ⟨by rfl, ?_⟩; go_simp
   exact hK _ _ ⟨Below.refl _ _, rfl, by simp⟩
  | 1, _ =>
   refine step_yes [] rfl (by kernel_rfl) fun K hK => ?_; simp only [frD] at hK ⊢; refine ⟨by rfl, ?_⟩; go_simp
   exact hK _ _ ⟨Below.refl _ _, rfl, by simp⟩
  | 2, _ =>
   have e1 := hd 1 (cm (by kernel_rfl)); simp only [gz, gs] at e1
   refine step_yes [(1, some 6)] rfl (by kernel_rfl) fun K hK => ?_; simp only [frD, e1] at hK ⊢; refine ⟨by rfl, ?_⟩; go_simp
   refine (gneg_num (h2.below S3.k)).mono ?_; rintro e w4 ⟨U, rfl, hr, hk4⟩; exact hK _ _ ⟨hk4, hr, by simp⟩
  | 3, _ =>
   have e0 := hd 0 (cm (by kernel_rfl)); simp only [gz] at e0; have h2 := hd 2 (cm (by kernel_rfl)); simp only [gz, gs] at h2
   refine step_yes [(0, some 5), (2, some 7)] rfl (by kernel_rfl) fun K hK => ?_; simp only [frD, e0] at hK ⊢; refine ⟨by rfl, ?_⟩; go_simp
   refine (rgives_eq (gadd_num (h1.below S3.k) (h2.num (by rw [szR_neg]; exact hy))) (Rat.sub_eq_add_neg x y).symm).mono ?_; rintro e w4 ⟨U, rfl, hr, hk4⟩; exact hK _ _ ⟨hk4, hr, by simp⟩
  | i + 4, hi => exact absurd hi (by omega)
 ·intro vs wpa hk3 hΦ _
  simp only [List.drop_succ_cons, List.drop_zero]
  rw [fr_frD, show (List.range 4).map _ = [(0, some 5), (1, some 6), (2, some 7), (3, some 8)] by kernel_rfl]
  have pa0 := hΦ 0 (by omega); simp only [gz] at pa0
  have pa1 := hΦ 1 (by omega); simp only [gz, gs] at pa1
  have pa2 := hΦ 2 (by omega); simp only [gz, gs] at pa2
  have pa3 := hΦ 3 (by omega); simp only [gz, gs] at pa3
  clear hΦ
  simp only [frD, pa0, pa1]
  simp only [Act.put, List.setIfInBounds_toArray, List.set_cons_zero, List.set_cons_succ]
  clear pa0 pa1
  generalize vs 2 = U2 at pa2 ⊢
  generalize vs 3 = U3 at pa3 ⊢
  replace S := S.drew.below hk3
  obtain ⟨b5, A5, n5, c5, d5, B5, m5, e5, rfl⟩ := pa3.open_
  replace S := S.addQ pa3
  clear pa2 pa3 hk3
  obtain ⟨r0_0, r0_1, r0_2, r0_3⟩ := S.cc4 0 rfl
  obtain ⟨f0_0, f0_1, f0_2, f0_3⟩ := S.ff4 0 rfl
  go_wp2
  replace S := S.put4 0 rfl rfl rfl (x' := .bool b5) (y' := .slice A5 n5 c5) (z' := .bool d5) (u' := .slice B5 m5 e5)
  refine bodyPost_ret (v := .agg #[.bool b5, .slice A5 n5 c5, .bool d5, .slice B5 m5 e5]) (by simp [results, Tryz.results50, go_sem, S.c 0 0 rfl rfl, S.c 0 1 rfl rfl, S.c 0 2 rfl rfl, S.c 0 3 rfl rfl]) rfl ?_
  exact ⟨_, rfl, S.qi 0 rfl, S.k⟩

set_option maxRecDepth 100000 in
set_option maxHeartbeats 1000000 in
theorem gcompare_num {w : World} {V1 V2 : Value} {x y : Rat} (h1 : RatNum w V1 x) (h2 : RatNum w V2 y) (hl : szR x + szR y ≤ 99999) : Calls Tryz.prog 18 #[V1, V2] w fun e w' => e = .returned (.int .i64 (cmpR x y)) ∧ Keeps w w' := by
 obtain ⟨b1, A1, n1, c1, d1, B1, m1, e1, rfl⟩ := h1.open_
 obtain ⟨b2, A2, n2, c2, d2, B2, m2, e2, rfl⟩ := h2.open_
 have hx := h1.sz
 have hy := h2.sz
 have S := ((St.start w).alloc 31 [.bool b1, .slice A1 n1 c1, .bool d1, .slice B1 m1 e1]).alloc 31 [.bool b2, .slice A2 n2 c2, .bool d2, .slice B2 m2 e2]
 simp only [World.size_alloc] at S
 have hz := szR_sub x y
 have HS := Lib.hid (rat_sub_sign x y)
 go_enter Tryz.func18, Tryz.ntmps18
 go_wp2_with fail
 generalize (w.alloc (.cells #[.bool b1, .slice A1 n1 c1, .bool d1, .slice B1 m1 e1] 31)).alloc (.cells #[.bool b2, .slice A2 n2 c2, .bool d2, .slice B2 m2 e2] 31) = W at *
 refine (gsub_num (h1.below S.k) (h2.below S.k)).mono ?_
 rintro e W1 ⟨U, rfl, hp, hk⟩
 replace S := (S.below hk).addR (hp.num (by omega))
 clear hk hp
 go_wp2_with fail
 refine (gsign_s (S.ri 0 rfl) HS.out).mono ?_
 rintro e W2 ⟨rfl, hk⟩
 replace S := S.below hk
 go_wp2
 go_ret
 exact ⟨rfl, S.k⟩
theorem gcompare_s {w : World} {V1 V2 : Value} {x y : Rat} {s : Int} (h1 : RatNum w V1 x) (h2 : RatNum w V2 y) (hl : szR x + szR y ≤ 99999) (e : cmpR x y = s) : Calls Tryz.prog 18 #[V1, V2] w fun e w' => e = .returned (.int .i64 s) ∧ Keeps w w' := by
 subst e; exact gcompare_num h1 h2 hl
theorem gvalid_rep {w : World} {V : Value} {q : Rat} (h : RatRep w V q) (hl : szR q ≤ 100000) : Calls Tryz.prog 27 #[V] w fun e w' => e = .returned (.bool true) ∧ Keeps w w' := by
 obtain ⟨x, v, y, u, rfl, h1, h2⟩ := h
 have := gvalid_any (w := w) (V := .agg #[x, v, y, u]) ⟨x, v, y, u, rfl, h1.arg, h2.arg⟩ (szR_num hl) (szR_den hl)
 rwa [rvalidB_rep] at this
set_option maxRecDepth 100000 in
set_option maxHeartbeats 1000000 in
theorem gsame_s {w : World} {V1 V2 : Value} {x y : Rat} {b : Bool} (g1 : RatRep w V1 x) (g2 : RatRep w V2 y) (hl : szR x + szR y ≤ 99999) (e : decide (x = y) = b) : Calls Tryz.prog 57 #[V1, V2] w fun e w' => e = .returned (.bool b) ∧ Keeps w w' := by
 have h1 := g1.num (by omega)
 have h2 := g2.num (by omega)
 obtain ⟨b1, A1, n1, c1, d1, B1, m1, e1, rfl⟩ := h1.open_
 obtain ⟨b2, A2, n2, c2, d2, B2, m2, e2, rfl⟩ := h2.open_
 have hx := h1.sz
 have hy := h2.sz
 have S := ((St.start w).alloc 31 [.bool b1, .slice A1 n1 c1, .bool d1, .slice B1 m1 e1]).alloc 31 [.bool b2, .slice A2 n2 c2, .bool d2, .slice B2 m2 e2]
 simp only [World.size_alloc] at S
 obtain ⟨s, hs⟩ : ∃ s, cmpR x y = s := ⟨_, rfl⟩
 have hb : (s == 0) = b := by
  rw [← e, ← hs]
  rw [Bool.eq_iff_iff]
  simp only [beq_iff_eq, decide_eq_true_eq]
  exact cmpR_zero x y
 have HS := Lib.hid hs
 clear hs e
 go_enter Tryz.func57, Tryz.ntmps57
 go_wp2_with fail
 generalize (w.alloc (.cells #[.bool b1, .slice A1 n1 c1, .bool d1, .slice B1 m1 e1] 31)).alloc (.cells #[.bool b2, .slice A2 n2 c2, .bool d2, .slice B2 m2 e2] 31) = W at *
 refine (gvalid_rep (g1.below S.k) hx).mono ?_
 rintro e W1 ⟨rfl, hk⟩
 replace S := S.below hk
 clear hk
 obtain ⟨r0_0, r0_1, r0_2, r0_3⟩ := S.cc4 0 rfl
 go_wp2_with fail
 refine (gvalid_rep (g2.below S.k) hy).mono ?_
 rintro e W2 ⟨rfl, hk⟩
 replace S := S.below hk
 clear hk r0_0 r0_1 r0_2 r0_3
 obtain ⟨r0_0, r0_1, r0_2, r0_3⟩ := S.cc4 0 rfl
 obtain ⟨r1_0, r1_1, r1_2, r1_3⟩ := S.cc4 1 rfl
 go_wp2_with fail
 refine (gcompare_s (h1.below S.k) (h2.below S.k) hl HS.out).mono ?_
 rintro e W3 ⟨rfl, hk⟩
 replace S := S.below hk
 clear hk r0_0 r0_1 r0_2 r0_3 r1_0 r1_1 r1_2 r1_3 g1 g2 h1 h2
 go_wp2
 go_ret
 exact ⟨by rw [← hb]; rfl, S.k⟩
end Go.Proofs.YtgcigdahjabimaaGreatDoor
