/- The walks of fiducialref02.Neg, Sub, Compare, Same. The walk of the laws' helpers of and known. The laws' helpers short, same, Zero; the reference's Abs, Divide. The walk of fraction.Abs. The walks of the reference's Abs, Divide, Floor, Ceil, Zero; of the laws' helper same. What a region's values may be said to be, and that it lasts: for the walks that walk.py prints. No program in sight. What FractionField asks, of core's fractions; the helper eq. The volumes above and below of a linear function over a triangle, plainly. No program in sight. A part of a triangle by the corner that lies alone on its side, plainly. No program in sight. The volume over a triangle: one function of three heights; it is homogeneous, grows, and is convex. No program in sight. -/
import Derived.Test.YtecibfncnaccjaaGreatPv33
import Derived.Test.YtecibfncnaccjaaGreatPv29
import Derived.Test.YtecibfncnaccjaaGreatPv30
import Derived.Test.YtecibfncnaccjaaGreatPv32
import Derived.Test.YtecibfncnaccjaaGreatPv31
import Derived.Test.YtecibfncnaccjaaGreatPv28
namespace Go.Proofs.YtecibfncnaccjaaGreat
open Go.RowKit Go.Shelf

set_option maxRecDepth 100000 in
set_option maxHeartbeats 1000000 in
theorem gneg_num {w : World} {V1 : Value} {x : Rat} (h1 : RatNum w V1 x) : Calls Tryz.prog 63 #[V1] w (RGives (-x) w) := by
 obtain ⟨b1, A1, n1, c1, d1, B1, m1, e1, rfl⟩ := h1.open_
 have hx := h1.sz
 have S := ((St.start w).alloc 35 [.bool b1, .slice A1 n1 c1, .bool d1, .slice B1 m1 e1]).alloc 35 [.bool false, .slice none 0 0, .bool false, .slice none 0 0]
 simp only [World.size_alloc] at S
 go_enter Tryz.func63, Tryz.ntmps63
 go_wp2_with fail
 generalize (w.alloc (.cells #[.bool b1, .slice A1 n1 c1, .bool d1, .slice B1 m1 e1] 35)).alloc (.cells #[.bool false, .slice none 0 0, .bool false, .slice none 0 0] 35) = W at *
 refine (gvalue_num (h1.below S.k)).mono ?_
 rintro e W1 ⟨U, rfl, hp, hk⟩
 obtain ⟨b3, A3, n3, c3, d3, B3, m3, e3, rfl⟩ := hp.open_
 replace S := ((S.below hk).addQ hp).alloc 35 [.bool b3, .slice A3 n3 c3, .bool d3, .slice B3 m3 e3]
 clear hk hp
 go_upto_region 2 with fail
 generalize hB : W1.heap.size = P5 at *
 generalize hW : W1.alloc (.cells #[.bool b3, .slice A3 n3 c3, .bool d3, .slice B3 m3 e3] 35) = W4 at *
 clear hB hW
 have lx1 := szR_num hx
 refine wp_region_steps (m := 5) rfl (by kernel_rfl) (fun iF vF wF => (List.getD [fun vF _ => vF = .pointer (some ⟨P5, 0, none⟩), fun vF _ => vF = .agg #[.bool b3, .slice A3 n3 c3], fun vF wF => IntRep wF vF (-x.num), fun vF _ => vF = .pointer (some ⟨P5, 2, none⟩), fun vF _ => vF = .agg #[.bool d3, .slice B3 m3 e3]] iF (fun _ _ => True)) vF wF) [] ?_ ?_ ?_
 ·intro i v w w' hi h hk
  rcases (show i = 0 ∨ i = 1 ∨ i = 2 ∨ i = 3 ∨ i = 4 by omega) with rfl | rfl | rfl | rfl | rfl
  all_goals simp only [gz, gs] at h ⊢
  all_goals first | exact h | exact IntRep.below h hk | exact RatRep.below h hk
 ·intro i hi vs w3 hk3 hd
  have S3 := S.drew.below hk3
  obtain ⟨a0, a1, a2, a3⟩ := S3.cc4 0 rfl
  match i, hi with
  | 0, _ =>
   refine step_yes [] rfl (by kernel_rfl) fun K hK => ?_; simp only [frD] at hK ⊢; refine ⟨by rfl, ?_⟩; go_simp
   exact hK _ _ ⟨Below.refl _ _, rfl, by simp⟩
  | 1, _ =>
   have e0 := hd 0 (cm (by kernel_rfl)); simp only [gz] at e0
   refine step_yes [(0, some 6)] rfl (by kernel_rfl) fun K hK => ?_; simp only [frD, e0] at hK ⊢; refine ⟨by rfl, ?_⟩; go_simp
   exact hK _ _ ⟨Below.refl _ _, rfl, by simp⟩
  | 2, _ =>
   have e1 := hd 1 (cm (by kernel_rfl)); simp only [gz, gs] at e1
   refine step_yes [(1, some 7)] rfl (by kernel_rfl) fun K hK => ?_; simp only [frD, e1] at hK ⊢; refine ⟨by rfl, ?_⟩; go_simp
   refine (rneg_num ((S3.qi 0 rfl).nn hx)).mono ?_; rintro e w4 ⟨U, rfl, hr, hk4⟩; exact hK _ _ ⟨hk4, hr, by simp⟩
  | 3, _ =>
   refine step_yes [] rfl (by kernel_rfl) fun K hK => ?_; simp only [frD] at hK ⊢; refine ⟨by rfl, ?_⟩; go_simp
   exact hK _ _ ⟨Below.refl _ _, rfl, by simp⟩
  | 4, _ =>
   have e3 := hd 3 (cm (by kernel_rfl)); simp only [gz, gs] at e3
   refine step_yes [(3, some 9)] rfl (by kernel_rfl) fun K hK => ?_; simp only [frD, e3] at hK ⊢; refine ⟨by rfl, ?_⟩; go_simp
   exact hK _ _ ⟨Below.refl _ _, rfl, by simp⟩
  | i + 5, hi => exact absurd hi (by omega)
 ·intro vs wpb hk3 hΦ _
  simp only [List.drop_succ_cons, List.drop_zero]
  rw [fr_frD, show (List.range 5).map _ = [(0, some 6), (1, some 7), (2, some 8), (3, some 9), (4, some 10)] by kernel_rfl]
  have pb0 := hΦ 0 (by omega); simp only [gz] at pb0
  have pb1 := hΦ 1 (by omega); simp only [gz, gs] at pb1
  have pb2 := hΦ 2 (by omega); simp only [gz, gs] at pb2
  have pb3 := hΦ 3 (by omega); simp only [gz, gs] at pb3
  have pb4 := hΦ 4 (by omega); simp only [gz, gs] at pb4
  clear hΦ
  simp only [frD, pb0, pb1, pb3, pb4]
  simp only [Act.put, List.setIfInBounds_toArray, List.set_cons_zero, List.set_cons_succ]
  clear pb0 pb1 pb3 pb4
  generalize vs 2 = U2 at pb2 ⊢
  replace S := S.drew.below hk3
  obtain ⟨b5, A5, n5, c5, rfl⟩ := pb2.open3
  replace S := S.addI pb2
  clear pb2 hk3 h1
  obtain ⟨r1_0, r1_1, r1_2, r1_3⟩ := S.cc4 1 rfl
  obtain ⟨f1_0, f1_1, f1_2, f1_3⟩ := S.ff4 1 rfl
  go_wp2
  replace S := S.put4 1 rfl rfl rfl (x' := .bool b5) (y' := .slice A5 n5 c5) (z' := .bool d3) (u' := .slice B3 m3 e3)
  refine bodyPost_ret (v := .agg #[.bool b5, .slice A5 n5 c5, .bool d3, .slice B3 m3 e3]) (by simp [results, Tryz.results63, go_sem, S.c 1 0 rfl rfl, S.c 1 1 rfl rfl, S.c 1 2 rfl rfl, S.c 1 3 rfl rfl]) rfl ?_
  exact ⟨_, rfl, RatRep.mk (S.ii 0 rfl) (S.qi 1 rfl).d (Rat.neg_num x).symm (by rw [Rat.neg_den]), S.k⟩

set_option maxRecDepth 100000 in
set_option maxHeartbeats 1000000 in
theorem gsub_num {w : World} {V1 V2 : Value} {x y : Rat} (h1 : RatNum w V1 x) (h2 : RatNum w V2 y) : Calls Tryz.prog 25 #[V1, V2] w (RGives (x - y) w) := by
 obtain ⟨b1, A1, n1, c1, d1, B1, m1, e1, rfl⟩ := h1.open_
 obtain ⟨b2, A2, n2, c2, d2, B2, m2, e2, rfl⟩ := h2.open_
 have hx := h1.sz
 have hy := h2.sz
 have S := (((St.start w).alloc 35 [.bool b1, .slice A1 n1 c1, .bool d1, .slice B1 m1 e1]).alloc 35 [.bool b2, .slice A2 n2 c2, .bool d2, .slice B2 m2 e2]).alloc 35 [.bool false, .slice none 0 0, .bool false, .slice none 0 0]
 simp only [World.size_alloc] at S
 go_enter Tryz.func25, Tryz.ntmps25
 go_wp2_with fail
 generalize ((w.alloc (.cells #[.bool b1, .slice A1 n1 c1, .bool d1, .slice B1 m1 e1] 35)).alloc (.cells #[.bool b2, .slice A2 n2 c2, .bool d2, .slice B2 m2 e2] 35)).alloc (.cells #[.bool false, .slice none 0 0, .bool false, .slice none 0 0] 35) = W at *
 refine wp_region_steps (m := 4) rfl (by kernel_rfl) (fun iF vF wF => (List.getD [fun vF _ => vF = .agg #[.bool b1, .slice A1 n1 c1, .bool d1, .slice B1 m1 e1], fun vF _ => vF = .agg #[.bool b2, .slice A2 n2 c2, .bool d2, .slice B2 m2 e2], fun vF wF => RatRep wF vF (-y), fun vF wF => RatRep wF vF (x - y)] iF (fun _ _ => True)) vF wF) [] ?_ ?_ ?_
 ·intro i v w w' hi h hk
  rcases (show i = 0 ∨ i = 1 ∨ i = 2 ∨ i = 3 by omega) with rfl | rfl | rfl | rfl
  all_goals simp only [gz, gs] at h ⊢
  all_goals first | exact h | exact IntRep.below h hk | exact RatRep.below h hk
 ·intro i hi vs w3 hk3 hd
  have S3 := S.drew.below hk3
  obtain ⟨a0, a1, a2, a3⟩ := S3.cc4 2 rfl
  obtain ⟨a4, a5, a6, a7⟩ := S3.cc4 1 rfl
  match i, hi with
  | 0, _ =>
   refine step_yes [] rfl (by kernel_rfl) fun K hK => ?_; simp only [frD] at hK ⊢; refine ⟨by rfl, ?_⟩; go_simp
   exact hK _ _ ⟨Below.refl _ _, rfl, by simp⟩
  | 1, _ =>
   refine step_yes [] rfl (by kernel_rfl) fun K hK => ?_; simp only [frD] at hK ⊢; refine ⟨by rfl, ?_⟩; go_simp
   exact hK _ _ ⟨Below.refl _ _, rfl, by simp⟩
  | 2, _ =>
   have e1 := hd 1 (cm (by kernel_rfl)); simp only [gz, gs] at e1
   refine step_yes [(1, some 6)] rfl (by kernel_rfl) fun K hK => ?_; simp only [frD, e1] at hK ⊢; refine ⟨by rfl, ?_⟩; go_simp
   refine (gneg_num (h2.below S3.k)).mono ?_; rintro e w4 ⟨U, rfl, hr, hk4⟩; exact hK _ _ ⟨hk4, hr, by simp⟩
  | 3, _ =>
   have e0 := hd 0 (cm (by kernel_rfl)); simp only [gz] at e0; have h2 := hd 2 (cm (by kernel_rfl)); simp only [gz, gs] at h2
   refine step_yes [(0, some 5), (2, some 7)] rfl (by kernel_rfl) fun K hK => ?_; simp only [frD, e0] at hK ⊢; refine ⟨by rfl, ?_⟩; go_simp
   refine (rgives_eq (gadd_num (h1.below S3.k) (h2.num (by rw [szR_neg]; exact hy))) (Rat.sub_eq_add_neg x y).symm).mono ?_; rintro e w4 ⟨U, rfl, hr, hk4⟩; exact hK _ _ ⟨hk4, hr, by simp⟩
  | i + 4, hi => exact absurd hi (by omega)
 ·intro vs wpa hk3 hΦ _
  simp only [List.drop_succ_cons, List.drop_zero]
  rw [fr_frD, show (List.range 4).map _ = [(0, some 5), (1, some 6), (2, some 7), (3, some 8)] by kernel_rfl]
  have pa0 := hΦ 0 (by omega); simp only [gz] at pa0
  have pa1 := hΦ 1 (by omega); simp only [gz, gs] at pa1
  have pa2 := hΦ 2 (by omega); simp only [gz, gs] at pa2
  have pa3 := hΦ 3 (by omega); simp only [gz, gs] at pa3
  clear hΦ
  simp only [frD, pa0, pa1]
  simp only [Act.put, List.setIfInBounds_toArray, List.set_cons_zero, List.set_cons_succ]
  clear pa0 pa1
  generalize vs 2 = U2 at pa2 ⊢
  generalize vs 3 = U3 at pa3 ⊢
  replace S := S.drew.below hk3
  obtain ⟨b5, A5, n5, c5, d5, B5, m5, e5, rfl⟩ := pa3.open_
  replace S := S.addQ pa3
  clear pa2 pa3 hk3
  obtain ⟨r0_0, r0_1, r0_2, r0_3⟩ := S.cc4 0 rfl
  obtain ⟨f0_0, f0_1, f0_2, f0_3⟩ := S.ff4 0 rfl
  go_wp2
  replace S := S.put4 0 rfl rfl rfl (x' := .bool b5) (y' := .slice A5 n5 c5) (z' := .bool d5) (u' := .slice B5 m5 e5)
  refine bodyPost_ret (v := .agg #[.bool b5, .slice A5 n5 c5, .bool d5, .slice B5 m5 e5]) (by simp [results, Tryz.results25, go_sem, S.c 0 0 rfl rfl, S.c 0 1 rfl rfl, S.c 0 2 rfl rfl, S.c 0 3 rfl rfl]) rfl ?_
  exact ⟨_, rfl, S.qi 0 rfl, S.k⟩

set_option maxRecDepth 100000 in
set_option maxHeartbeats 1000000 in
theorem gcompare_num {w : World} {V1 V2 : Value} {x y : Rat} (h1 : RatNum w V1 x) (h2 : RatNum w V2 y) (hl : szR x + szR y ≤ 99999) : Calls Tryz.prog 18 #[V1, V2] w fun e w' => e = .returned (.int .i64 (cmpR x y)) ∧ Keeps w w' := by
 obtain ⟨b1, A1, n1, c1, d1, B1, m1, e1, rfl⟩ := h1.open_
 obtain ⟨b2, A2, n2, c2, d2, B2, m2, e2, rfl⟩ := h2.open_
 have hx := h1.sz
 have hy := h2.sz
 have S := ((St.start w).alloc 35 [.bool b1, .slice A1 n1 c1, .bool d1, .slice B1 m1 e1]).alloc 35 [.bool b2, .slice A2 n2 c2, .bool d2, .slice B2 m2 e2]
 simp only [World.size_alloc] at S
 have hz := szR_sub x y
 have HS := Lib.hid (rat_sub_sign x y)
 go_enter Tryz.func18, Tryz.ntmps18
 go_wp2_with fail
 generalize (w.alloc (.cells #[.bool b1, .slice A1 n1 c1, .bool d1, .slice B1 m1 e1] 35)).alloc (.cells #[.bool b2, .slice A2 n2 c2, .bool d2, .slice B2 m2 e2] 35) = W at *
 refine (gsub_num (h1.below S.k) (h2.below S.k)).mono ?_
 rintro e W1 ⟨U, rfl, hp, hk⟩
 replace S := (S.below hk).addR (hp.num (by omega))
 clear hk hp
 go_wp2_with fail
 refine (gsign_s (S.ri 0 rfl) HS.out).mono ?_
 rintro e W2 ⟨rfl, hk⟩
 replace S := S.below hk
 go_wp2
 go_ret
 exact ⟨rfl, S.k⟩
theorem gcompare_s {w : World} {V1 V2 : Value} {x y : Rat} {s : Int} (h1 : RatNum w V1 x) (h2 : RatNum w V2 y) (hl : szR x + szR y ≤ 99999) (e : cmpR x y = s) : Calls Tryz.prog 18 #[V1, V2] w fun e w' => e = .returned (.int .i64 s) ∧ Keeps w w' := by
 subst e; exact gcompare_num h1 h2 hl
theorem gvalid_rep {w : World} {V : Value} {q : Rat} (h : RatRep w V q) (hl : szR q ≤ 100000) : Calls Tryz.prog 80 #[V] w fun e w' => e = .returned (.bool true) ∧ Keeps w w' := by
 obtain ⟨x, v, y, u, rfl, h1, h2⟩ := h
 have := gvalid_any (w := w) (V := .agg #[x, v, y, u]) ⟨x, v, y, u, rfl, h1.arg, h2.arg⟩ (szR_num hl) (szR_den hl)
 rwa [rvalidB_rep] at this
set_option maxRecDepth 100000 in
set_option maxHeartbeats 1000000 in
theorem gsame_s {w : World} {V1 V2 : Value} {x y : Rat} {b : Bool} (g1 : RatRep w V1 x) (g2 : RatRep w V2 y) (hl : szR x + szR y ≤ 99999) (e : decide (x = y) = b) : Calls Tryz.prog 48 #[V1, V2] w fun e w' => e = .returned (.bool b) ∧ Keeps w w' := by
 have h1 := g1.num (by omega)
 have h2 := g2.num (by omega)
 obtain ⟨b1, A1, n1, c1, d1, B1, m1, e1, rfl⟩ := h1.open_
 obtain ⟨b2, A2, n2, c2, d2, B2, m2, e2, rfl⟩ := h2.open_
 have hx := h1.sz
 have hy := h2.sz
 have S := ((St.start w).alloc 35 [.bool b1, .slice A1 n1 c1, .bool d1, .slice B1 m1 e1]).alloc 35 [.bool b2, .slice A2 n2 c2, .bool d2, .slice B2 m2 e2]
 simp only [World.size_alloc] at S
 obtain ⟨s, hs⟩ : ∃ s, cmpR x y = s := ⟨_, rfl⟩
 have hb : (s == 0) = b := by
  rw [← e, ← hs]
  rw [Bool.eq_iff_iff]
  simp only [beq_iff_eq, decide_eq_true_eq]
  exact cmpR_zero x y
 have HS := Lib.hid hs
 clear hs e
 go_enter Tryz.func48, Tryz.ntmps48
 go_wp2_with fail
 generalize (w.alloc (.cells #[.bool b1, .slice A1 n1 c1, .bool d1, .slice B1 m1 e1] 35)).alloc (.cells #[.bool b2, .slice A2 n2 c2, .bool d2, .slice B2 m2 e2] 35) = W at *
 refine (gvalid_rep (g1.below S.k) hx).mono ?_
 rintro e W1 ⟨rfl, hk⟩
 replace S := S.below hk
 clear hk
 obtain ⟨r0_0, r0_1, r0_2, r0_3⟩ := S.cc4 0 rfl
 go_wp2_with fail
 refine (gvalid_rep (g2.below S.k) hy).mono ?_
 rintro e W2 ⟨rfl, hk⟩
 replace S := S.below hk
 clear hk r0_0 r0_1 r0_2 r0_3
 obtain ⟨r0_0, r0_1, r0_2, r0_3⟩ := S.cc4 0 rfl
 obtain ⟨r1_0, r1_1, r1_2, r1_3⟩ := S.cc4 1 rfl
 go_wp2_with fail
 refine (gcompare_s (h1.below S.k) (h2.below S.k) hl HS.out).mono ?_
 rintro e W3 ⟨rfl, hk⟩
 replace S := S.below hk
 clear hk r0_0 r0_1 r0_2 r0_3 r1_0 r1_1 r1_2 r1_3 g1 g2 h1 h2
 go_wp2
 go_ret
 exact ⟨by rw [← hb]; rfl, S.k⟩
theorem lenI_small {a : Int} (h : a.natAbs < 1000000000) : lenI a ≤ 1 := dig_length_le (n := a.natAbs) (k := 1) (by simpa using h)
theorem szR_small (a b : Int) (hb : b ≠ 0) (h1 : a.natAbs < 1000000000) (h2 : b.natAbs < 1000000000) : szR (Rat.divInt a b) ≤ 1 := by
 have := szR_divInt a b hb
 have := lenI_small h1
 have := lenI_small h2
 omega
theorem RatArg.open2 {w : World} {V : Value} {n1 n2 : Bool} {xs ys : List Nat} (h : RatArg w V n1 xs n2 ys) : ∃ A c B d, V = .agg #[.bool n1, .slice A xs.length c, .bool n2, .slice B ys.length d] := by
 obtain ⟨x, v, y, u, rfl, ⟨v1, e1, h1⟩, ⟨v2, e2, h2⟩⟩ := h
 cases e1; cases e2
 obtain ⟨A, n, c, rfl, rfl, -⟩ := h1.open_
 obtain ⟨B, m, d, rfl, rfl, -⟩ := h2.open_
 exact ⟨A, c, B, d, rfl⟩
def RatS (w : World) (V : Value) (q : Rat) (b : Bool) : Prop :=
 ∃ n1 xs n2 ys, RatArg w V n1 xs n2 ys ∧ rcnt n1 xs n2 ys = q ∧ decide (xs.length + ys.length ≤ 8) = b ∧ xs.length ≤ 35184372088832 ∧ ys.length ≤ 35184372088832
section
variable {w w' w0 : World} {V : Value} {q : Rat} {b : Bool} {bs : List Bx} {ps : List (World → Prop)}
theorem RatArg.map {n1 n2 : Bool} {xs ys : List Nat} (h : RatArg w V n1 xs n2 ys) (hs : Same32 w w') : RatArg w' V n1 xs n2 ys := by
 obtain ⟨x, v, y, u, rfl, ⟨v1, e1, h1⟩, ⟨v2, e2, h2⟩⟩ := h
 exact ⟨_, _, _, _, rfl, ⟨v1, e1, hs _ _ h1⟩, ⟨v2, e2, hs _ _ h2⟩⟩
theorem RatS.map (h : RatS w V q b) (hs : Same32 w w') : RatS w' V q b := by
 obtain ⟨n1, xs, n2, ys, h, r⟩ := h
 exact ⟨n1, xs, n2, ys, h.map hs, r⟩
theorem RatS.num (h : RatS w V q true) : RatNum w V q := by
 obtain ⟨n1, xs, n2, ys, h, e, hb, -, -⟩ := h
 have := of_decide_eq_true hb
 exact ⟨n1, xs, n2, ys, h, e, by omega, by omega⟩
theorem RatS.sz (h : RatS w V q true) : szR q ≤ 8 := by
 obtain ⟨n1, xs, n2, ys, h, rfl, hb, -, -⟩ := h
 have := of_decide_eq_true hb
 have := szR_rcnt (n1 := n1) (xs := xs) (n2 := n2) (ys := ys)
 omega
theorem RatS.open_ (h : RatS w V q b) : ∃ b A n c d B m e, V = .agg #[.bool b, .slice A n c, .bool d, .slice B m e] := by
 obtain ⟨n1, xs, n2, ys, h, -⟩ := h
 obtain ⟨A, c, B, d, rfl⟩ := h.open2
 exact ⟨_, _, _, _, _, _, _, _, rfl⟩
end
end Go.Proofs.YtecibfncnaccjaaGreat
namespace Go.Proofs.YtecibfncnaccjaaGreat
open Go.RowKit

def StabL : List (Value → World → Prop) → Prop
 | [] => True
 | φ :: l => (∀ v w w', φ v w → Keeps w w' → φ v w') ∧ StabL l
theorem stab_nil : StabL [] := trivial
theorem stab_cons {φ : Value → World → Prop} {l : List (Value → World → Prop)} (h : ∀ v w w', φ v w → Keeps w w' → φ v w') (hl : StabL l) : StabL (φ :: l) := ⟨h, hl⟩
theorem stabL_get : ∀ {l : List (Value → World → Prop)}, StabL l → ∀ (i : Nat) (v : Value) (w w' : World), (List.getD l i (fun _ _ => True)) v w → Keeps w w' → (List.getD l i (fun _ _ => True)) v w'
 | [], _, _, _, _, _, _, _ => trivial
 | _ :: _, h, 0, v, w, w', hp, hk => h.1 v w w' hp hk
 | _ :: l, h, i + 1, v, w, w', hp, hk => stabL_get (l := l) h.2 i v w w' hp hk
theorem st_e {c : Value} (v : Value) (w w' : World) (h : v = c) (_ : Keeps w w') : v = c := h
theorem st_q {q : Rat} (v : Value) (w w' : World) (h : RatRep w v q) (hk : Keeps w w') : RatRep w' v q := h.below hk
theorem st_t {c : Int} {q : Rat} (v : Value) (w w' : World) (h : TupQ c q v w) (hk : Keeps w w') : TupQ c q v w' := h.below hk
theorem st_f {c : Int} {q : Rat} (v : Value) (w w' : World) (h : FstQ c q v w) (hk : Keeps w w') : FstQ c q v w' := h.below hk
theorem st_a {n : Nat} {t : TypeId} {vs : List Value} (v : Value) (w w' : World) (h : ∃ b, v = .pointer (some ⟨b, 0, none⟩) ∧ n ≤ b ∧ Own w b t vs) (hk : Keeps w w') : ∃ b, v = .pointer (some ⟨b, 0, none⟩) ∧ n ≤ b ∧ Own w' b t vs := by
 obtain ⟨b, h1, h2, h3⟩ := h
 exact ⟨b, h1, h2, h3.below hk⟩
section
variable {P : Program} {ops : Array Oper} {Φ : Nat → Value → World → Prop} {own : List Nat} {m i : Nat} {vs : Nat → Value} {a : Act} {w : World} {o : Oper}
theorem step_val (ds : List (Nat × Option Tmp)) (φ : Value → World → Prop) (hi : ops[i]? = some o) (hl : (depsOf ops m i).map (fun j => (j, dstOf ops j)) = ds) (hφ : ∀ v w, φ v w → Φ i v w) (ho : own.contains i = false)
 (h : ∀ K : Act → World → Prop, (∀ v w', Keeps w w' → φ v w' → K ((frD vs a ds).put o.dst v) w') → Region.wanted o (yielded ops (frD vs a ds).tmps) = true ∧ Oper.wp P o (frD vs a ds) w K (fun _ _ _ => False)) : Step P ops Φ own m i vs a w :=
 step_yes ds hi hl fun K hK => h K fun v w' hk hp => hK v w' ⟨hk, hφ _ _ hp, fun hc => by rw [List.contains_iff_mem.2 hc] at ho; cases ho⟩
theorem step_val0 (ds : List (Nat × Option Tmp)) (φ : Value → World → Prop) (hi : ops[i]? = some o) (hl : (depsOf ops m i).map (fun j => (j, dstOf ops j)) = ds) (hg : o.guard = none) (hφ : ∀ v w, φ v w → Φ i v w) (ho : own.contains i = false)
 (h : ∀ K : Act → World → Prop, (∀ v w', Keeps w w' → φ v w' → K ((frD vs a ds).put o.dst v) w') → Oper.wp P o (frD vs a ds) w K (fun _ _ _ => False)) : Step P ops Φ own m i vs a w :=
 step_val ds φ hi hl hφ ho fun K hK => ⟨by simp [Region.wanted, hg], h K hK⟩
end
theorem exec_call {P : Program} {o : Oper} {ρ : Operand → Value} {w : World} {c : Call} {x : Operand} {F : FuncId} {fn : Func} {A : Array Value} (hop : o.op = .call c) (hc : c.callee = .value x) (hx : ρ x = .func (.func F) #[] #[]) (hA : c.args.map ρ = A)
 (hf : P.funcs[F]? = some fn) (hn : (fn.name == "runtime.NumGoroutine") = false) (hb : fn.body.isNone = false) : (execOp ρ o).run P w = .ok (.enter F A) w := by
 have hn' : ¬ fn.name = "runtime.NumGoroutine" := by simpa using hn
 have hb' : ¬ fn.body = none := fun e => by rw [e] at hb; cases hb
 simp [execOp, hop, resolve, hc, hx, hA, Deferred.ofValue, invoke, callFunc, hf, hn', hb', go_sem]
theorem wp_call_fn {P : Program} {o : Oper} {a : Act} {w : World} {K : Act → World → Prop} {Q : Exit → Act → World → Prop} {c : Call} {x : Operand} {F : FuncId} {fn : Func} {X : Value} {A B : Array Value} (hop : o.op = .call c) (hc : c.callee = .value x)
 (hx : a.eval x = X) (hX : X = .func (.func F) #[] #[]) (hA : c.args.map a.eval = A) (hB : A = B) (hf : P.funcs[F]? = some fn) (hn : (fn.name == "runtime.NumGoroutine") = false) (hb : fn.body.isNone = false)
 (h : Calls P F B w (fun e w' => ∃ v, e = .returned v ∧ K (a.put o.dst v) w')) : Oper.wp P o a w K Q := by
 subst hX hB
 unfold Oper.wp
 rw [exec_call hop hc hx hA hf hn hb, Oper.upon_enter]
 refine h.mono ?_
 rintro e w' ⟨v, rfl, hK⟩
 exact hK
theorem wanted_none {ops : Array Oper} {o : Oper} {ts : Array Value} (hg : o.guard = none) : Region.wanted o (yielded ops ts) = true := by simp [Region.wanted, hg]
theorem wanted_some {ops : Array Oper} {o : Oper} {ts : Array Value} {g : Nat} {want : Bool} (t : Tmp) {X : Value} (hg : o.guard = some (g, want)) (hd : (ops[g]?.bind fun x => x.dst) = some t) (hv : ts[t]? = some X) (hX : X = .bool want) : Region.wanted o (yielded ops ts) = true := by
 subst hX
 simp only [Region.wanted, hg, yielded, hd, Option.bind_some, hv]
 simp
theorem step_valg {P : Program} {ops : Array Oper} {Φ : Nat → Value → World → Prop} {own : List Nat} {m i : Nat} {vs : Nat → Value} {a : Act} {w : World} {o : Oper}
 (ds : List (Nat × Option Tmp)) (φ : Value → World → Prop) (hi : ops[i]? = some o) (hl : (depsOf ops m i).map (fun j => (j, dstOf ops j)) = ds) (hφ : ∀ v w, φ v w → Φ i v w) (ho : own.contains i = false)
 (hw : Region.wanted o (yielded ops (frD vs a ds).tmps) = true)
 (h : ∀ K : Act → World → Prop, (∀ v w', Keeps w w' → φ v w' → K ((frD vs a ds).put o.dst v) w') → Oper.wp P o (frD vs a ds) w K (fun _ _ _ => False)) : Step P ops Φ own m i vs a w :=
 step_val ds φ hi hl hφ ho fun K hK => ⟨hw, h K hK⟩
theorem step_call {P : Program} {ops : Array Oper} {Φ : Nat → Value → World → Prop} {own : List Nat} {m i : Nat} {vs : Nat → Value} {a : Act} {w : World} {o : Oper} {c : Call} {x : Operand} {F : FuncId} {fn : Func} {X : Value} {A B : Array Value}
 (ds : List (Nat × Option Tmp)) (φ : Value → World → Prop) (hi : ops[i]? = some o) (hl : (depsOf ops m i).map (fun j => (j, dstOf ops j)) = ds) (hφ : ∀ v w, φ v w → Φ i v w) (ho : own.contains i = false)
 (hw : Region.wanted o (yielded ops (frD vs a ds).tmps) = true) (hop : o.op = .call c) (hc : c.callee = .value x) (hx : (frD vs a ds).eval x = X) (hX : X = .func (.func F) #[] #[]) (hA : c.args.map (frD vs a ds).eval = A) (hB : A = B)
 (hf : P.funcs[F]? = some fn) (hn : (fn.name == "runtime.NumGoroutine") = false) (hb : fn.body.isNone = false) (h : Calls P F B w (fun e w' => ∃ v, e = .returned v ∧ Keeps w w' ∧ φ v w')) : Step P ops Φ own m i vs a w :=
 step_val ds φ hi hl hφ ho fun _ hK => ⟨hw, wp_call_fn hop hc hx hX hA hB hf hn hb (h.mono fun _ w' ⟨v, e1, h1, h2⟩ => ⟨v, e1, hK v w' h1 h2⟩)⟩
abbrev ve (c : Value) : Value → World → Prop := fun v _ => v = c
theorem ws {ops : Array Oper} {o : Oper} {ts : Array Value} {g : Nat} {want : Bool} (t : Tmp) {X : Value} (hX : X = .bool want) (hg : o.guard = some (g, want) := by rfl) (hd : (ops[g]?.bind fun x => x.dst) = some t := by rfl) (hv : ts[t]? = some X := by kernel_rfl) : Region.wanted o (yielded ops ts) = true := wanted_some t hg hd hv hX
theorem sc {P : Program} {ops : Array Oper} {Φ : Nat → Value → World → Prop} {own : List Nat} {m i : Nat} {vs : Nat → Value} {a : Act} {w : World} {o : Oper} {c : Call} {x : Operand} {F : FuncId} {fn : Func} {A B : Array Value}
  (ds : List (Nat × Option Tmp)) (φ : Value → World → Prop) (hi : ops[i]? = some o) (hw : Region.wanted o (yielded ops (frD vs a ds).tmps) = true) (hB : A = B) (hf : P.funcs[F]? = some fn) (h : Calls P F B w (fun e w' => ∃ v, e = .returned v ∧ Keeps w w' ∧ φ v w'))
  (hl : (depsOf ops m i).map (fun j => (j, dstOf ops j)) = ds := by kernel_rfl) (hφ : ∀ v w, φ v w → Φ i v w := by exact fun _ _ h => h) (ho : own.contains i = false := by rfl) (hop : o.op = .call c := by rfl) (hc : c.callee = .value x := by rfl)
  (hx : (frD vs a ds).eval x = .func (.func F) #[] #[] := by kernel_rfl) (hA : c.args.map (frD vs a ds).eval = A := by kernel_rfl) (hn : (fn.name == "runtime.NumGoroutine") = false := by kernel_rfl) (hb : fn.body.isNone = false := by kernel_rfl) : Step P ops Φ own m i vs a w :=
  step_call ds φ hi hl hφ ho hw hop hc hx rfl hA hB hf hn hb h
theorem svg {P : Program} {ops : Array Oper} {Φ : Nat → Value → World → Prop} {own : List Nat} {m i : Nat} {vs : Nat → Value} {a : Act} {w : World} {o : Oper} (ds : List (Nat × Option Tmp)) (φ : Value → World → Prop) (hi : ops[i]? = some o)
  (hw : Region.wanted o (yielded ops (frD vs a ds).tmps) = true) (h : ∀ K : Act → World → Prop, (∀ v w', Keeps w w' → φ v w' → K ((frD vs a ds).put o.dst v) w') → Oper.wp P o (frD vs a ds) w K (fun _ _ _ => False))
  (hl : (depsOf ops m i).map (fun j => (j, dstOf ops j)) = ds := by kernel_rfl) (hφ : ∀ v w, φ v w → Φ i v w := by exact fun _ _ h => h) (ho : own.contains i = false := by rfl) : Step P ops Φ own m i vs a w := step_valg ds φ hi hl hφ ho hw h
theorem hdk {l : List Nat} {P : Nat → Prop} (hd : ∀ j ∈ l, P j) (i : Nat) (h : l.contains i = true := by kernel_rfl) : P i := hd i (cm h)
theorem sv0 {P : Program} {ops : Array Oper} {Φ : Nat → Value → World → Prop} {own : List Nat} {m i : Nat} {vs : Nat → Value} {a : Act} {w : World} {o : Oper} (ds : List (Nat × Option Tmp)) (φ : Value → World → Prop) (hi : ops[i]? = some o)
  (h : ∀ K : Act → World → Prop, (∀ v w', Keeps w w' → φ v w' → K ((frD vs a ds).put o.dst v) w') → Oper.wp P o (frD vs a ds) w K (fun _ _ _ => False))
  (hl : (depsOf ops m i).map (fun j => (j, dstOf ops j)) = ds := by kernel_rfl) (hg : o.guard = none := by rfl) (hφ : ∀ v w, φ v w → Φ i v w := by exact fun _ _ h => h) (ho : own.contains i = false := by rfl) : Step P ops Φ own m i vs a w := step_val0 ds φ hi hl hg hφ ho h
end Go.Proofs.YtecibfncnaccjaaGreat
namespace Go.Proofs.YtecibfncnaccjaaGreat
open Go.RowKit Go.Shelf

theorem szR_div' (x y : Rat) : szR (x / y) ≤ szR x + szR y + 1 := by
 by_cases hy : y = 0
 ·subst hy
  have h0 : x / 0 = 0 := by rw [Rat.div_def, Rat.inv_zero, Rat.mul_zero]
  have := szR_int 0
  rw [lenI_zero, Rat.intCast_zero] at this
  rw [h0]; omega
 ·have := szR_div x y hy; omega
end Go.Proofs.YtecibfncnaccjaaGreat
namespace Go.Proofs.YtecibfncnaccjaaGreat
def bubR : Nat → List Rat → List Rat
 | 0, l => l
 | j + 1, l => if l.getD (j + 1) 0 < l.getD j 0 then bubR j ((l.set (j + 1) (l.getD j 0)).set j (l.getD (j + 1) 0)) else l
def srtR : Nat → List Rat → List Rat
 | 0, l => l
 | k + 1, l => bubR k (srtR k l)
theorem srtR_3 (x y z : Rat) : ∃ a b c, srtR 3 [x, y, z] = [a, b, c] ∧ a ≤ b ∧ b ≤ c ∧ ([x, y, z] = [a, b, c] ∨ [x, y, z] = [a, c, b] ∨ [x, y, z] = [b, a, c] ∨ [x, y, z] = [b, c, a] ∨ [x, y, z] = [c, a, b] ∨ [x, y, z] = [c, b, a]) := by
 have e : srtR 3 [x, y, z] = bubR 2 (bubR 1 [x, y, z]) := rfl
 by_cases h1 : y < x
 ·have e1 : bubR 1 [x, y, z] = [y, x, z] := by rw [bubR]; simp [h1, bubR]
  by_cases h2 : z < x
  ·by_cases h3 : z < y
   ·refine ⟨z, y, x, ?_, ?_, ?_, by simp⟩
    ·rw [e, e1, bubR]; simp [h2, bubR, h3]
    ·grind
    ·grind
   ·refine ⟨y, z, x, ?_, ?_, ?_, by simp⟩
    ·rw [e, e1, bubR]; simp [h2, bubR, h3]
    ·grind
    ·grind
  ·refine ⟨y, x, z, ?_, ?_, ?_, by simp⟩
   ·rw [e, e1, bubR]; simp [h2]
   ·grind
   ·grind
 ·have e1 : bubR 1 [x, y, z] = [x, y, z] := by rw [bubR]; simp [h1]
  by_cases h2 : z < y
  ·by_cases h3 : z < x
   ·refine ⟨z, x, y, ?_, ?_, ?_, by simp⟩
    ·rw [e, e1, bubR]; simp [h2, bubR, h3]
    ·grind
    ·grind
   ·refine ⟨x, z, y, ?_, ?_, ?_, by simp⟩
    ·rw [e, e1, bubR]; simp [h2, bubR, h3]
    ·grind
    ·grind
  ·refine ⟨x, y, z, ?_, ?_, ?_, by simp⟩
   ·rw [e, e1, bubR]; simp [h2]
   ·grind
   ·grind
def meanT (a b c : Rat) : Rat := Rat.divInt 1 3 * (a + b + c)
def pkT (x y z : Rat) : Rat := x * (x * x) / (3 * ((x - y) * (x - z)))
def upT (a b c : Rat) : Rat := if 0 ≤ a then meanT a b c else if c ≤ 0 then 0 else if b ≤ 0 then pkT c a b else pkT (-a) (-b) (-c) + meanT a b c
def dnT (a b c : Rat) : Rat := if 0 ≤ a then 0 else if c ≤ 0 then -meanT a b c else if b ≤ 0 then pkT c a b - meanT a b c else pkT (-a) (-b) (-c)
def upV (x y z : Rat) : Rat := let l := srtR 3 [x, y, z]; upT (l.getD 0 0) (l.getD 1 0) (l.getD 2 0)
def dnV (x y z : Rat) : Rat := let l := srtR 3 [x, y, z]; dnT (l.getD 0 0) (l.getD 1 0) (l.getD 2 0)
theorem pk_nz {x y z : Rat} (h1 : 0 < x) (h2 : y ≤ 0) (h3 : z ≤ 0) : 3 * ((x - y) * (x - z)) ≠ 0 := by
 have a1 : 0 < x - y := by grind
 have a2 : 0 < x - z := by grind
 have a3 := Rat.mul_pos a1 a2
 grind
abbrev R3 := Rat × Rat × Rat
def posI (x : Rat) : Int := if 0 < x then 1 else 0
def rotT (t : R3) : R3 := (t.2.1, t.2.2, t.1)
def cntT (t : R3) : Int := posI t.1 + posI t.2.1 + posI t.2.2
def aloneT (t : R3) : Bool := (decide (0 < t.1) == decide (cntT t = 1)) && (decide (0 < t.2.1) == decide (0 < t.2.2))
def firstT (t : R3) : R3 := if aloneT t then t else if aloneT (rotT t) then rotT t else rotT (rotT t)
def cT (tip : Rat → Rat → Rat → Rat) (rest : Rat → Rat → Rat → Rat → Rat) (t : R3) : Rat :=
 if cntT t = 0 then 0 else if cntT t = 3 then rest t.1 t.2.1 t.2.2 0 else
 if cntT t = 2 then rest (firstT t).1 (firstT t).2.1 (firstT t).2.2 (tip (firstT t).1 (firstT t).2.1 (firstT t).2.2) else tip (firstT t).1 (firstT t).2.1 (firstT t).2.2
theorem posI_01 (x : Rat) : (posI x = 0 ∧ ¬ 0 < x) ∨ (posI x = 1 ∧ 0 < x) := by
 unfold posI
 by_cases h : 0 < x
 ·right; simp [h]
 ·left; simp [h]
theorem cntT_rot (t : R3) : cntT (rotT t) = cntT t := by unfold cntT rotT; simp only; omega
theorem alone_some (t : R3) (h0 : cntT t ≠ 0) (h3 : cntT t ≠ 3) : aloneT t = true ∨ aloneT (rotT t) = true ∨ aloneT (rotT (rotT t)) = true := by
 obtain ⟨x, y, z⟩ := t
 unfold aloneT
 rw [cntT_rot, cntT_rot]
 unfold cntT at h0 h3 ⊢
 simp only [rotT] at h0 h3 ⊢
 rcases posI_01 x with ⟨a, a'⟩ | ⟨a, a'⟩ <;> rcases posI_01 y with ⟨b, b'⟩ | ⟨b, b'⟩ <;> rcases posI_01 z with ⟨c, c'⟩ | ⟨c, c'⟩ <;> simp only [a, b, c, a', b', c'] at h0 h3 ⊢ <;> simp at h0 h3 ⊢
def RotOk (x : R3) (k : Nat) (y : R3) : Prop := (k = 2 ∧ y = x) ∨ (k = 1 ∧ y = rotT x ∧ aloneT x = false) ∨ (k = 0 ∧ y = rotT (rotT x) ∧ aloneT x = false ∧ aloneT (rotT x) = false)
theorem RotOk.cnt {x y : R3} {k : Nat} (h : RotOk x k y) : cntT y = cntT x := by
 rcases h with ⟨-, rfl⟩ | ⟨-, rfl, -⟩ | ⟨-, rfl, -⟩
 ·rfl
 ·exact cntT_rot _
 ·rw [cntT_rot, cntT_rot]
theorem RotOk.first {x y : R3} {k : Nat} (h : RotOk x k y) (ha : aloneT y = true) : firstT x = y := by
 rcases h with ⟨-, rfl⟩ | ⟨-, rfl, h1⟩ | ⟨-, rfl, h1, h2⟩
 ·unfold firstT; rw [if_pos ha]
 ·unfold firstT; rw [if_neg (by rw [h1]; decide), if_pos ha]
 ·unfold firstT; rw [if_neg (by rw [h1]; decide), if_neg (by rw [h2]; decide)]
theorem RotOk.next {x y : R3} {k : Nat} (h : RotOk x k y) (h0 : cntT x ≠ 0) (h3 : cntT x ≠ 3) (ha : aloneT y = false) : 0 < k ∧ RotOk x (k - 1) (rotT y) := by
 rcases h with ⟨rfl, rfl⟩ | ⟨rfl, rfl, h1⟩ | ⟨rfl, rfl, h1, h2⟩
 ·exact ⟨by omega, .inr (.inl ⟨rfl, rfl, ha⟩)⟩
 ·exact ⟨by omega, .inr (.inr ⟨rfl, rfl, h1, ha⟩)⟩
 ·rcases alone_some x h0 h3 with h | h | h
  ·rw [h] at h1; cases h1
  ·rw [h] at h2; cases h2
  ·rw [h] at ha; cases ha
theorem rot_ways (y : R3) (h0 : cntT y ≠ 0) (h3 : cntT y ≠ 3) :
 (cntT y = 1 ∧ ¬ 0 < y.1 ∧ aloneT y = false) ∨ (cntT y = 2 ∧ 0 < y.1 ∧ aloneT y = false) ∨ (cntT y = 1 ∧ 0 < y.1 ∧ ¬ 0 < y.2.1 ∧ ¬ 0 < y.2.2 ∧ aloneT y = true) ∨ (cntT y = 2 ∧ ¬ 0 < y.1 ∧ 0 < y.2.1 ∧ 0 < y.2.2 ∧ aloneT y = true) := by
 obtain ⟨x, y, z⟩ := y
 unfold aloneT
 unfold cntT at h0 h3 ⊢
 simp only at h0 h3 ⊢
 rcases posI_01 x with ⟨a, a'⟩ | ⟨a, a'⟩ <;> rcases posI_01 y with ⟨b, b'⟩ | ⟨b, b'⟩ <;> rcases posI_01 z with ⟨c, c'⟩ | ⟨c, c'⟩ <;> simp only [a, b, c, a', b', c'] at h0 h3 ⊢ <;> simp at h0 h3 ⊢
def shR (x y z : Rat) : Rat := x * x / ((x - y) * (x - z))
def tipV (x y z : Rat) : Rat := x * (x * x / ((x - y) * (x - z))) / 3
def restV (x y z t : Rat) : Rat := (x + (y + z)) / 3 - t
def restA (_ _ _ t : Rat) : Rat := 1 - t
theorem sh_nz1 {x y z : Rat} (h1 : 0 < x) (h2 : ¬ 0 < y) (h3 : ¬ 0 < z) : (x - y) * (x - z) ≠ 0 := by
 have a1 : 0 < x - y := by grind
 have a2 : 0 < x - z := by grind
 have a3 := Rat.mul_pos a1 a2
 grind
theorem sh_nz2 {x y z : Rat} (h1 : ¬ 0 < x) (h2 : 0 < y) (h3 : 0 < z) : (x - y) * (x - z) ≠ 0 := by
 have a1 : 0 < y - x := by grind
 have a2 : 0 < z - x := by grind
 have a3 := Rat.mul_pos a1 a2
 grind
theorem cT_0 {tip : Rat → Rat → Rat → Rat} {rest : Rat → Rat → Rat → Rat → Rat} {t : R3} (h : cntT t = 0) : cT tip rest t = 0 := if_pos h
theorem cT_3 {tip : Rat → Rat → Rat → Rat} {rest : Rat → Rat → Rat → Rat → Rat} {t : R3} (h : cntT t = 3) : cT tip rest t = rest t.1 t.2.1 t.2.2 0 := by unfold cT; rw [if_neg (by omega), if_pos h]
theorem cT_1 {tip : Rat → Rat → Rat → Rat} {rest : Rat → Rat → Rat → Rat → Rat} {t y : R3} (h : cntT t = 1) (hy : firstT t = y) : cT tip rest t = tip y.1 y.2.1 y.2.2 := by unfold cT; rw [if_neg (by omega), if_neg (by omega), if_neg (by omega), hy]
theorem cT_2 {tip : Rat → Rat → Rat → Rat} {rest : Rat → Rat → Rat → Rat → Rat} {t y : R3} (h : cntT t = 2) (hy : firstT t = y) : cT tip rest t = rest y.1 y.2.1 y.2.2 (tip y.1 y.2.1 y.2.2) := by unfold cT; rw [if_neg (by omega), if_neg (by omega), if_pos h, hy]
def cS (a b c : Rat) : Rat := if 0 < a then (a + b + c) / 3 else if c ≤ 0 then 0 else if b ≤ 0 then tipV c a b else (a + b + c) / 3 - tipV a b c
theorem third_mean (a b c : Rat) : meanT a b c = (a + b + c) / 3 := by
 unfold meanT
 rw [show Rat.divInt 1 3 = (1 : Rat) / 3 by decide +kernel]
 grind
theorem tip_pk (x y z : Rat) : pkT x y z = tipV x y z := by
 unfold pkT tipV
 by_cases h : (x - y) * (x - z) = 0
 ·rw [h, Rat.mul_zero, Rat.div_def, Rat.div_def, Rat.div_def, Rat.inv_zero]; grind
 ·grind
theorem tip_neg (x y z : Rat) : tipV (-x) (-y) (-z) = -tipV x y z := by
 unfold tipV
 have e : (-x - -y) * (-x - -z) = (x - y) * (x - z) := by grind
 rw [e]
 by_cases h : (x - y) * (x - z) = 0
 ·rw [h, Rat.div_def, Rat.div_def, Rat.div_def, Rat.div_def, Rat.inv_zero]; grind
 ·grind
theorem tip_swap (x y z : Rat) : tipV x y z = tipV x z y := by
 unfold tipV
 rw [Rat.mul_comm (x - y)]
theorem tip_zero (y z : Rat) : tipV 0 y z = 0 := by
 unfold tipV
 rw [Rat.zero_mul]
 simp only [Rat.div_def, Rat.zero_mul]
theorem tip_z2 {x : Rat} (h : x ≠ 0) : tipV x 0 0 = x / 3 := by
 unfold tipV
 grind
theorem upT_cS {a b c : Rat} (h1 : a ≤ b) (h2 : b ≤ c) : upT a b c = cS a b c := by
 unfold upT cS
 rw [third_mean, tip_pk, tip_pk, tip_neg]
 by_cases ha : 0 < a
 ·rw [if_pos (Rat.le_of_lt ha), if_pos ha]
 ·rw [if_neg ha]
  by_cases ha0 : a = 0
  ·subst ha0
   rw [if_pos Rat.le_refl]
   by_cases hc : c ≤ 0
   ·rw [if_pos hc]; grind
   ·rw [if_neg hc]
    by_cases hb : b ≤ 0
    ·rw [if_pos hb]
     obtain rfl : b = 0 := by grind
     rw [tip_z2 (by grind)]
     grind
    ·rw [if_neg hb, tip_zero]; grind
  ·rw [if_neg (by grind)]
   by_cases hc : c ≤ 0
   ·rw [if_pos hc, if_pos hc]
   ·rw [if_neg hc, if_neg hc]
    by_cases hb : b ≤ 0
    ·rw [if_pos hb, if_pos hb]
    ·rw [if_neg hb, if_neg hb]; grind
abbrev cV (x y z : Rat) : Rat := cT tipV restV (x, y, z)
theorem pos1 {x : Rat} (h : 0 < x) : posI x = 1 := if_pos h
theorem pos0 {x : Rat} (h : x ≤ 0) : posI x = 0 := if_neg (Rat.not_lt.2 h)
section
variable {tip : Rat → Rat → Rat → Rat} {rest : Rat → Rat → Rat → Rat → Rat} {x y z : Rat}
theorem cT_none (hx : x ≤ 0) (hy : y ≤ 0) (hz : z ≤ 0) : cT tip rest (x, y, z) = 0 := cT_0 (by unfold cntT; rw [pos0 hx, pos0 hy, pos0 hz]; rfl)
theorem cT_all (hx : 0 < x) (hy : 0 < y) (hz : 0 < z) : cT tip rest (x, y, z) = rest x y z 0 := cT_3 (by unfold cntT; rw [pos1 hx, pos1 hy, pos1 hz]; rfl)
theorem cT_up1 (hx : 0 < x) (hy : y ≤ 0) (hz : z ≤ 0) : cT tip rest (x, y, z) = tip x y z := by
 have hc : cntT (x, y, z) = 1 := by unfold cntT; rw [pos1 hx, pos0 hy, pos0 hz]; rfl
 refine cT_1 (y := (x, y, z)) hc ?_
 unfold firstT
 rw [if_pos (by unfold aloneT; rw [hc]; simp [hx, Rat.not_lt.2 hy, Rat.not_lt.2 hz])]
theorem cT_up2 (hx : x ≤ 0) (hy : 0 < y) (hz : z ≤ 0) : cT tip rest (x, y, z) = tip y z x := by
 have hc : cntT (x, y, z) = 1 := by unfold cntT; rw [pos0 hx, pos1 hy, pos0 hz]; rfl
 refine cT_1 (y := (y, z, x)) hc ?_
 unfold firstT
 rw [if_neg (by unfold aloneT; rw [hc]; simp [hy, Rat.not_lt.2 hx, Rat.not_lt.2 hz]), if_pos (by unfold aloneT; rw [cntT_rot, hc]; simp [rotT, hy, Rat.not_lt.2 hx, Rat.not_lt.2 hz])]
 rfl
theorem cT_up3 (hx : x ≤ 0) (hy : y ≤ 0) (hz : 0 < z) : cT tip rest (x, y, z) = tip z x y := by
 have hc : cntT (x, y, z) = 1 := by unfold cntT; rw [pos0 hx, pos0 hy, pos1 hz]; rfl
 refine cT_1 (y := (z, x, y)) hc ?_
 unfold firstT
 rw [if_neg (by unfold aloneT; rw [hc]; simp [hz, Rat.not_lt.2 hx, Rat.not_lt.2 hy]), if_neg (by unfold aloneT; rw [cntT_rot, hc]; simp [rotT, hz, Rat.not_lt.2 hx, Rat.not_lt.2 hy])]
 rfl
theorem cT_dn1 (hx : x ≤ 0) (hy : 0 < y) (hz : 0 < z) : cT tip rest (x, y, z) = rest x y z (tip x y z) := by
 have hc : cntT (x, y, z) = 2 := by unfold cntT; rw [pos0 hx, pos1 hy, pos1 hz]; rfl
 refine cT_2 (y := (x, y, z)) hc ?_
 unfold firstT
 rw [if_pos (by unfold aloneT; rw [hc]; simp [hy, hz, Rat.not_lt.2 hx])]
theorem cT_dn2 (hx : 0 < x) (hy : y ≤ 0) (hz : 0 < z) : cT tip rest (x, y, z) = rest y z x (tip y z x) := by
 have hc : cntT (x, y, z) = 2 := by unfold cntT; rw [pos1 hx, pos0 hy, pos1 hz]; rfl
 refine cT_2 (y := (y, z, x)) hc ?_
 unfold firstT
 rw [if_neg (by unfold aloneT; rw [hc]; simp [hx, hz, Rat.not_lt.2 hy]), if_pos (by unfold aloneT; rw [cntT_rot, hc]; simp [rotT, hx, hz, Rat.not_lt.2 hy])]
 rfl
theorem cT_dn3 (hx : 0 < x) (hy : 0 < y) (hz : z ≤ 0) : cT tip rest (x, y, z) = rest z x y (tip z x y) := by
 have hc : cntT (x, y, z) = 2 := by unfold cntT; rw [pos1 hx, pos1 hy, pos0 hz]; rfl
 refine cT_2 (y := (z, x, y)) hc ?_
 unfold firstT
 rw [if_neg (by unfold aloneT; rw [hc]; simp [hx, hy, Rat.not_lt.2 hz]), if_neg (by unfold aloneT; rw [cntT_rot, hc]; simp [rotT, hx, hy, Rat.not_lt.2 hz])]
 rfl
end
theorem cV_sorted {a b c x y z : Rat} (h1 : a ≤ b) (h2 : b ≤ c) (hp : (x = a ∧ y = b ∧ z = c) ∨ (x = a ∧ y = c ∧ z = b) ∨ (x = b ∧ y = a ∧ z = c) ∨ (x = b ∧ y = c ∧ z = a) ∨ (x = c ∧ y = a ∧ z = b) ∨ (x = c ∧ y = b ∧ z = a)) : cV x y z = cS a b c := by
 unfold cS
 by_cases ha : 0 < a
 ·have hb : 0 < b := by grind
  have hc : 0 < c := by grind
  rw [if_pos ha]
  rcases hp with ⟨rfl, rfl, rfl⟩ | ⟨rfl, rfl, rfl⟩ | ⟨rfl, rfl, rfl⟩ | ⟨rfl, rfl, rfl⟩ | ⟨rfl, rfl, rfl⟩ | ⟨rfl, rfl, rfl⟩ <;> (rw [cV, cT_all (by assumption) (by assumption) (by assumption)]; unfold restV; grind)
 ·rw [if_neg ha]
  have ha := Rat.not_lt.1 ha
  by_cases hc : c ≤ 0
  ·have hb : b ≤ 0 := by grind
   rw [if_pos hc]
   rcases hp with ⟨rfl, rfl, rfl⟩ | ⟨rfl, rfl, rfl⟩ | ⟨rfl, rfl, rfl⟩ | ⟨rfl, rfl, rfl⟩ | ⟨rfl, rfl, rfl⟩ | ⟨rfl, rfl, rfl⟩ <;> exact cT_none (by assumption) (by assumption) (by assumption)
  ·rw [if_neg hc]
   have hc := Rat.not_le.1 hc
   by_cases hb : b ≤ 0
   ·rw [if_pos hb]
    rcases hp with ⟨rfl, rfl, rfl⟩ | ⟨rfl, rfl, rfl⟩ | ⟨rfl, rfl, rfl⟩ | ⟨rfl, rfl, rfl⟩ | ⟨rfl, rfl, rfl⟩ | ⟨rfl, rfl, rfl⟩
    ·exact cT_up3 ha hb hc
    ·exact (cT_up2 ha hc hb).trans (tip_swap _ _ _)
    ·exact (cT_up3 hb ha hc).trans (tip_swap _ _ _)
    ·exact cT_up2 hb hc ha
    ·exact cT_up1 hc ha hb
    ·exact (cT_up1 hc hb ha).trans (tip_swap _ _ _)
   ·rw [if_neg hb]
    have hb := Rat.not_le.1 hb
    rcases hp with ⟨rfl, rfl, rfl⟩ | ⟨rfl, rfl, rfl⟩ | ⟨rfl, rfl, rfl⟩ | ⟨rfl, rfl, rfl⟩ | ⟨rfl, rfl, rfl⟩ | ⟨rfl, rfl, rfl⟩
    ·rw [cV, cT_dn1 ha hb hc]; unfold restV; grind
    ·rw [cV, cT_dn1 ha hc hb, tip_swap]; unfold restV; grind
    ·rw [cV, cT_dn2 hb ha hc, tip_swap]; unfold restV; grind
    ·rw [cV, cT_dn3 hb hc ha]; unfold restV; grind
    ·rw [cV, cT_dn2 hc ha hb]; unfold restV; grind
    ·rw [cV, cT_dn3 hc hb ha, tip_swap]; unfold restV; grind
theorem upV_cV (x y z : Rat) : upV x y z = cV x y z := by
 obtain ⟨a, b, c, h, h1, h2, hp⟩ := srtR_3 x y z
 have e1 : upV x y z = upT a b c := by unfold upV; rw [h]; rfl
 rw [e1, upT_cS h1 h2]
 simp only [List.cons.injEq, and_true] at hp
 exact (cV_sorted h1 h2 hp).symm
end Go.Proofs.YtecibfncnaccjaaGreat
