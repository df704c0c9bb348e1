/- The walks of fiducialref02.Neg, Sub, Compare, Same. The walk of the laws' helpers of and known. The laws' helpers short, same, Zero; the reference's Abs, Divide. The walk of fraction.Abs. The walks of the reference's Abs, Divide, Floor, Ceil, Zero; of the laws' helper same. What FractionField asks, of core's fractions; the helper eq. The volumes above and below of a linear function over a triangle, plainly. No program in sight. Lists of fractions in memory. No program in sight. The walk of fraction.Sum. -/
import Derived.Test.YtecibfncnaccjaaGreatPo36
import Derived.Test.YtecibfncnaccjaaGreatPo33
import Derived.Test.YtecibfncnaccjaaGreatPo34
import Derived.Test.YtecibfncnaccjaaGreatPo35
import Derived.Test.YtecibfncnaccjaaGreatPo28
namespace Go.Proofs.YtecibfncnaccjaaGreat
open Go.RowKit Go.Shelf

set_option maxRecDepth 100000 in
set_option maxHeartbeats 1000000 in
theorem gneg_num {w : World} {V1 : Value} {x : Rat} (h1 : RatNum w V1 x) : Calls Tryz.prog 63 #[V1] w (RGives (-x) w) := by
 obtain ⟨b1, A1, n1, c1, d1, B1, m1, e1, rfl⟩ := h1.open_
 have hx := h1.sz
 have S := ((St.start w).alloc 35 [.bool b1, .slice A1 n1 c1, .bool d1, .slice B1 m1 e1]).alloc 35 [.bool false, .slice none 0 0, .bool false, .slice none 0 0]
 simp only [World.size_alloc] at S
 go_enter Tryz.func63, Tryz.ntmps63
 go_wp2_with fail
 generalize (w.alloc (.cells #[.bool b1, .slice A1 n1 c1, .bool d1, .slice B1 m1 e1] 35)).alloc (.cells #[.bool false, .slice none 0 0, .bool false, .slice none 0 0] 35) = W at *
 refine (gvalue_num (h1.below S.k)).mono ?_
 rintro e W1 ⟨U, rfl, hp, hk⟩
 obtain ⟨b3, A3, n3, c3, d3, B3, m3, e3, rfl⟩ := hp.open_
 replace S := ((S.below hk).addQ hp).alloc 35 [.bool b3, .slice A3 n3 c3, .bool d3, .slice B3 m3 e3]
 clear hk hp
 go_upto_region 2 with fail
 generalize hB : W1.heap.size = P5 at *
 generalize hW : W1.alloc (.cells #[.bool b3, .slice A3 n3 c3, .bool d3, .slice B3 m3 e3] 35) = W4 at *
 clear hB hW
 have lx1 := szR_num hx
 refine wp_region_steps (m := 5) rfl (by kernel_rfl) (fun iF vF wF => (List.getD [fun vF _ => vF = .pointer (some ⟨P5, 0, none⟩), fun vF _ => vF = .agg #[.bool b3, .slice A3 n3 c3], fun vF wF => IntRep wF vF (-x.num), fun vF _ => vF = .pointer (some ⟨P5, 2, none⟩), fun vF _ => vF = .agg #[.bool d3, .slice B3 m3 e3]] iF (fun _ _ => True)) vF wF) [] ?_ ?_ ?_
 ·intro i v w w' hi h hk
  rcases (show i = 0 ∨ i = 1 ∨ i = 2 ∨ i = 3 ∨ i = 4 by omega) with rfl | rfl | rfl | rfl | rfl
  all_goals simp only [gz, gs] at h ⊢
  all_goals first | exact h | exact IntRep.below h hk | exact RatRep.below h hk
 ·intro i hi vs w3 hk3 hd
  have S3 := S.drew.below hk3
  obtain ⟨a0, a1, a2, a3⟩ := S3.cc4 0 rfl
  match i, hi with
  | 0, _ =>
   refine step_yes [] rfl (by kernel_rfl) fun K hK => ?_; simp only [frD] at hK ⊢; refine ⟨by rfl, ?_⟩; go_simp
   exact hK _ _ ⟨Below.refl _ _, rfl, by simp⟩
  | 1, _ =>
   have e0 := hd 0 (cm (by kernel_rfl)); simp only [gz] at e0
   refine step_yes [(0, some 6)] rfl (by kernel_rfl) fun K hK => ?_; simp only [frD, e0] at hK ⊢; refine ⟨by rfl, ?_⟩; go_simp
   exact hK _ _ ⟨Below.refl _ _, rfl, by simp⟩
  | 2, _ =>
   have e1 := hd 1 (cm (by kernel_rfl)); simp only [gz, gs] at e1
   refine step_yes [(1, some 7)] rfl (by kernel_rfl) fun K hK => ?_; simp only [frD, e1] at hK ⊢; refine ⟨by rfl, ?_⟩; go_simp
   refine (rneg_num ((S3.qi 0 rfl).nn hx)).mono ?_; rintro e w4 ⟨U, rfl, hr, hk4⟩; exact hK _ _ ⟨hk4, hr, by simp⟩
  | 3, _ =>
   refine step_yes [] rfl (by kernel_rfl) fun K hK => ?_; simp only [frD] at hK ⊢; refine ⟨by rfl, ?_⟩; go_simp
   exact hK _ _ ⟨Below.refl _ _, rfl, by simp⟩
  | 4, _ =>
   have e3 := hd 3 (cm (by kernel_rfl)); simp only [gz, gs] at e3
   refine step_yes [(3, some 9)] rfl (by kernel_rfl) fun K hK => ?_; simp only [frD, e3] at hK ⊢; refine ⟨by rfl, ?_⟩; go_simp
   exact hK _ _ ⟨Below.refl _ _, rfl, by simp⟩
  | i + 5, hi => exact absurd hi (by omega)
 ·intro vs wpb hk3 hΦ _
  simp only [List.drop_succ_cons, List.drop_zero]
  rw [fr_frD, show (List.range 5).map _ = [(0, some 6), (1, some 7), (2, some 8), (3, some 9), (4, some 10)] by kernel_rfl]
  have pb0 := hΦ 0 (by omega); simp only [gz] at pb0
  have pb1 := hΦ 1 (by omega); simp only [gz, gs] at pb1
  have pb2 := hΦ 2 (by omega); simp only [gz, gs] at pb2
  have pb3 := hΦ 3 (by omega); simp only [gz, gs] at pb3
  have pb4 := hΦ 4 (by omega); simp only [gz, gs] at pb4
  clear hΦ
  simp only [frD, pb0, pb1, pb3, pb4]
  simp only [Act.put, List.setIfInBounds_toArray, List.set_cons_zero, List.set_cons_succ]
  clear pb0 pb1 pb3 pb4
  generalize vs 2 = U2 at pb2 ⊢
  replace S := S.drew.below hk3
  obtain ⟨b5, A5, n5, c5, rfl⟩ := pb2.open3
  replace S := S.addI pb2
  clear pb2 hk3 h1
  obtain ⟨r1_0, r1_1, r1_2, r1_3⟩ := S.cc4 1 rfl
  obtain ⟨f1_0, f1_1, f1_2, f1_3⟩ := S.ff4 1 rfl
  go_wp2
  replace S := S.put4 1 rfl rfl rfl (x' := .bool b5) (y' := .slice A5 n5 c5) (z' := .bool d3) (u' := .slice B3 m3 e3)
  refine bodyPost_ret (v := .agg #[.bool b5, .slice A5 n5 c5, .bool d3, .slice B3 m3 e3]) (by simp [results, Tryz.results63, go_sem, S.c 1 0 rfl rfl, S.c 1 1 rfl rfl, S.c 1 2 rfl rfl, S.c 1 3 rfl rfl]) rfl ?_
  exact ⟨_, rfl, RatRep.mk (S.ii 0 rfl) (S.qi 1 rfl).d (Rat.neg_num x).symm (by rw [Rat.neg_den]), S.k⟩

set_option maxRecDepth 100000 in
set_option maxHeartbeats 1000000 in
theorem gsub_num {w : World} {V1 V2 : Value} {x y : Rat} (h1 : RatNum w V1 x) (h2 : RatNum w V2 y) : Calls Tryz.prog 25 #[V1, V2] w (RGives (x - y) w) := by
 obtain ⟨b1, A1, n1, c1, d1, B1, m1, e1, rfl⟩ := h1.open_
 obtain ⟨b2, A2, n2, c2, d2, B2, m2, e2, rfl⟩ := h2.open_
 have hx := h1.sz
 have hy := h2.sz
 have S := (((St.start w).alloc 35 [.bool b1, .slice A1 n1 c1, .bool d1, .slice B1 m1 e1]).alloc 35 [.bool b2, .slice A2 n2 c2, .bool d2, .slice B2 m2 e2]).alloc 35 [.bool false, .slice none 0 0, .bool false, .slice none 0 0]
 simp only [World.size_alloc] at S
 go_enter Tryz.func25, Tryz.ntmps25
 go_wp2_with fail
 generalize ((w.alloc (.cells #[.bool b1, .slice A1 n1 c1, .bool d1, .slice B1 m1 e1] 35)).alloc (.cells #[.bool b2, .slice A2 n2 c2, .bool d2, .slice B2 m2 e2] 35)).alloc (.cells #[.bool false, .slice none 0 0, .bool false, .slice none 0 0] 35) = W at *
 refine wp_region_steps (m := 4) rfl (by kernel_rfl) (fun iF vF wF => (List.getD [fun vF _ => vF = .agg #[.bool b1, .slice A1 n1 c1, .bool d1, .slice B1 m1 e1], fun vF _ => vF = .agg #[.bool b2, .slice A2 n2 c2, .bool d2, .slice B2 m2 e2], fun vF wF => RatRep wF vF (-y), fun vF wF => RatRep wF vF (x - y)] iF (fun _ _ => True)) vF wF) [] ?_ ?_ ?_
 ·intro i v w w' hi h hk
  rcases (show i = 0 ∨ i = 1 ∨ i = 2 ∨ i = 3 by omega) with rfl | rfl | rfl | rfl
  all_goals simp only [gz, gs] at h ⊢
  all_goals first | exact h | exact IntRep.below h hk | exact RatRep.below h hk
 ·intro i hi vs w3 hk3 hd
  have S3 := S.drew.below hk3
  obtain ⟨a0, a1, a2, a3⟩ := S3.cc4 2 rfl
  obtain ⟨a4, a5, a6, a7⟩ := S3.cc4 1 rfl
  match i, hi with
  | 0, _ =>
   refine step_yes [] rfl (by kernel_rfl) fun K hK => ?_; simp only [frD] at hK ⊢; refine ⟨by rfl, ?_⟩; go_simp
   exact hK _ _ ⟨Below.refl _ _, rfl, by simp⟩
  | 1, _ =>
   refine step_yes [] rfl (by kernel_rfl) fun K hK => ?_; simp only [frD] at hK ⊢; refine ⟨by rfl, ?_⟩; go_simp
   exact hK _ _ ⟨Below.refl _ _, rfl, by simp⟩
  | 2, _ =>
   have e1 := hd 1 (cm (by kernel_rfl)); simp only [gz, gs] at e1
   refine step_yes [(1, some 6)] rfl (by kernel_rfl) fun K hK => ?_; simp only [frD, e1] at hK ⊢; refine ⟨by rfl, ?_⟩; go_simp
   refine (gneg_num (h2.below S3.k)).mono ?_; rintro e w4 ⟨U, rfl, hr, hk4⟩; exact hK _ _ ⟨hk4, hr, by simp⟩
  | 3, _ =>
   have e0 := hd 0 (cm (by kernel_rfl)); simp only [gz] at e0; have h2 := hd 2 (cm (by kernel_rfl)); simp only [gz, gs] at h2
   refine step_yes [(0, some 5), (2, some 7)] rfl (by kernel_rfl) fun K hK => ?_; simp only [frD, e0] at hK ⊢; refine ⟨by rfl, ?_⟩; go_simp
   refine (rgives_eq (gadd_num (h1.below S3.k) (h2.num (by rw [szR_neg]; exact hy))) (Rat.sub_eq_add_neg x y).symm).mono ?_; rintro e w4 ⟨U, rfl, hr, hk4⟩; exact hK _ _ ⟨hk4, hr, by simp⟩
  | i + 4, hi => exact absurd hi (by omega)
 ·intro vs wpa hk3 hΦ _
  simp only [List.drop_succ_cons, List.drop_zero]
  rw [fr_frD, show (List.range 4).map _ = [(0, some 5), (1, some 6), (2, some 7), (3, some 8)] by kernel_rfl]
  have pa0 := hΦ 0 (by omega); simp only [gz] at pa0
  have pa1 := hΦ 1 (by omega); simp only [gz, gs] at pa1
  have pa2 := hΦ 2 (by omega); simp only [gz, gs] at pa2
  have pa3 := hΦ 3 (by omega); simp only [gz, gs] at pa3
  clear hΦ
  simp only [frD, pa0, pa1]
  simp only [Act.put, List.setIfInBounds_toArray, List.set_cons_zero, List.set_cons_succ]
  clear pa0 pa1
  generalize vs 2 = U2 at pa2 ⊢
  generalize vs 3 = U3 at pa3 ⊢
  replace S := S.drew.below hk3
  obtain ⟨b5, A5, n5, c5, d5, B5, m5, e5, rfl⟩ := pa3.open_
  replace S := S.addQ pa3
  clear pa2 pa3 hk3
  obtain ⟨r0_0, r0_1, r0_2, r0_3⟩ := S.cc4 0 rfl
  obtain ⟨f0_0, f0_1, f0_2, f0_3⟩ := S.ff4 0 rfl
  go_wp2
  replace S := S.put4 0 rfl rfl rfl (x' := .bool b5) (y' := .slice A5 n5 c5) (z' := .bool d5) (u' := .slice B5 m5 e5)
  refine bodyPost_ret (v := .agg #[.bool b5, .slice A5 n5 c5, .bool d5, .slice B5 m5 e5]) (by simp [results, Tryz.results25, go_sem, S.c 0 0 rfl rfl, S.c 0 1 rfl rfl, S.c 0 2 rfl rfl, S.c 0 3 rfl rfl]) rfl ?_
  exact ⟨_, rfl, S.qi 0 rfl, S.k⟩

set_option maxRecDepth 100000 in
set_option maxHeartbeats 1000000 in
theorem gcompare_num {w : World} {V1 V2 : Value} {x y : Rat} (h1 : RatNum w V1 x) (h2 : RatNum w V2 y) (hl : szR x + szR y ≤ 99999) : Calls Tryz.prog 18 #[V1, V2] w fun e w' => e = .returned (.int .i64 (cmpR x y)) ∧ Keeps w w' := by
 obtain ⟨b1, A1, n1, c1, d1, B1, m1, e1, rfl⟩ := h1.open_
 obtain ⟨b2, A2, n2, c2, d2, B2, m2, e2, rfl⟩ := h2.open_
 have hx := h1.sz
 have hy := h2.sz
 have S := ((St.start w).alloc 35 [.bool b1, .slice A1 n1 c1, .bool d1, .slice B1 m1 e1]).alloc 35 [.bool b2, .slice A2 n2 c2, .bool d2, .slice B2 m2 e2]
 simp only [World.size_alloc] at S
 have hz := szR_sub x y
 have HS := Lib.hid (rat_sub_sign x y)
 go_enter Tryz.func18, Tryz.ntmps18
 go_wp2_with fail
 generalize (w.alloc (.cells #[.bool b1, .slice A1 n1 c1, .bool d1, .slice B1 m1 e1] 35)).alloc (.cells #[.bool b2, .slice A2 n2 c2, .bool d2, .slice B2 m2 e2] 35) = W at *
 refine (gsub_num (h1.below S.k) (h2.below S.k)).mono ?_
 rintro e W1 ⟨U, rfl, hp, hk⟩
 replace S := (S.below hk).addR (hp.num (by omega))
 clear hk hp
 go_wp2_with fail
 refine (gsign_s (S.ri 0 rfl) HS.out).mono ?_
 rintro e W2 ⟨rfl, hk⟩
 replace S := S.below hk
 go_wp2
 go_ret
 exact ⟨rfl, S.k⟩
theorem gcompare_s {w : World} {V1 V2 : Value} {x y : Rat} {s : Int} (h1 : RatNum w V1 x) (h2 : RatNum w V2 y) (hl : szR x + szR y ≤ 99999) (e : cmpR x y = s) : Calls Tryz.prog 18 #[V1, V2] w fun e w' => e = .returned (.int .i64 s) ∧ Keeps w w' := by
 subst e; exact gcompare_num h1 h2 hl
theorem gvalid_rep {w : World} {V : Value} {q : Rat} (h : RatRep w V q) (hl : szR q ≤ 100000) : Calls Tryz.prog 80 #[V] w fun e w' => e = .returned (.bool true) ∧ Keeps w w' := by
 obtain ⟨x, v, y, u, rfl, h1, h2⟩ := h
 have := gvalid_any (w := w) (V := .agg #[x, v, y, u]) ⟨x, v, y, u, rfl, h1.arg, h2.arg⟩ (szR_num hl) (szR_den hl)
 rwa [rvalidB_rep] at this
set_option maxRecDepth 100000 in
set_option maxHeartbeats 1000000 in
theorem gsame_s {w : World} {V1 V2 : Value} {x y : Rat} {b : Bool} (g1 : RatRep w V1 x) (g2 : RatRep w V2 y) (hl : szR x + szR y ≤ 99999) (e : decide (x = y) = b) : Calls Tryz.prog 48 #[V1, V2] w fun e w' => e = .returned (.bool b) ∧ Keeps w w' := by
 have h1 := g1.num (by omega)
 have h2 := g2.num (by omega)
 obtain ⟨b1, A1, n1, c1, d1, B1, m1, e1, rfl⟩ := h1.open_
 obtain ⟨b2, A2, n2, c2, d2, B2, m2, e2, rfl⟩ := h2.open_
 have hx := h1.sz
 have hy := h2.sz
 have S := ((St.start w).alloc 35 [.bool b1, .slice A1 n1 c1, .bool d1, .slice B1 m1 e1]).alloc 35 [.bool b2, .slice A2 n2 c2, .bool d2, .slice B2 m2 e2]
 simp only [World.size_alloc] at S
 obtain ⟨s, hs⟩ : ∃ s, cmpR x y = s := ⟨_, rfl⟩
 have hb : (s == 0) = b := by
  rw [← e, ← hs]
  rw [Bool.eq_iff_iff]
  simp only [beq_iff_eq, decide_eq_true_eq]
  exact cmpR_zero x y
 have HS := Lib.hid hs
 clear hs e
 go_enter Tryz.func48, Tryz.ntmps48
 go_wp2_with fail
 generalize (w.alloc (.cells #[.bool b1, .slice A1 n1 c1, .bool d1, .slice B1 m1 e1] 35)).alloc (.cells #[.bool b2, .slice A2 n2 c2, .bool d2, .slice B2 m2 e2] 35) = W at *
 refine (gvalid_rep (g1.below S.k) hx).mono ?_
 rintro e W1 ⟨rfl, hk⟩
 replace S := S.below hk
 clear hk
 obtain ⟨r0_0, r0_1, r0_2, r0_3⟩ := S.cc4 0 rfl
 go_wp2_with fail
 refine (gvalid_rep (g2.below S.k) hy).mono ?_
 rintro e W2 ⟨rfl, hk⟩
 replace S := S.below hk
 clear hk r0_0 r0_1 r0_2 r0_3
 obtain ⟨r0_0, r0_1, r0_2, r0_3⟩ := S.cc4 0 rfl
 obtain ⟨r1_0, r1_1, r1_2, r1_3⟩ := S.cc4 1 rfl
 go_wp2_with fail
 refine (gcompare_s (h1.below S.k) (h2.below S.k) hl HS.out).mono ?_
 rintro e W3 ⟨rfl, hk⟩
 replace S := S.below hk
 clear hk r0_0 r0_1 r0_2 r0_3 r1_0 r1_1 r1_2 r1_3 g1 g2 h1 h2
 go_wp2
 go_ret
 exact ⟨by rw [← hb]; rfl, S.k⟩
theorem lenI_small {a : Int} (h : a.natAbs < 1000000000) : lenI a ≤ 1 := dig_length_le (n := a.natAbs) (k := 1) (by simpa using h)
theorem szR_small (a b : Int) (hb : b ≠ 0) (h1 : a.natAbs < 1000000000) (h2 : b.natAbs < 1000000000) : szR (Rat.divInt a b) ≤ 1 := by
 have := szR_divInt a b hb
 have := lenI_small h1
 have := lenI_small h2
 omega
theorem RatArg.open2 {w : World} {V : Value} {n1 n2 : Bool} {xs ys : List Nat} (h : RatArg w V n1 xs n2 ys) : ∃ A c B d, V = .agg #[.bool n1, .slice A xs.length c, .bool n2, .slice B ys.length d] := by
 obtain ⟨x, v, y, u, rfl, ⟨v1, e1, h1⟩, ⟨v2, e2, h2⟩⟩ := h
 cases e1; cases e2
 obtain ⟨A, n, c, rfl, rfl, -⟩ := h1.open_
 obtain ⟨B, m, d, rfl, rfl, -⟩ := h2.open_
 exact ⟨A, c, B, d, rfl⟩
def RatS (w : World) (V : Value) (q : Rat) (b : Bool) : Prop :=
 ∃ n1 xs n2 ys, RatArg w V n1 xs n2 ys ∧ rcnt n1 xs n2 ys = q ∧ decide (xs.length + ys.length ≤ 8) = b ∧ xs.length ≤ 35184372088832 ∧ ys.length ≤ 35184372088832
section
variable {w w' w0 : World} {V : Value} {q : Rat} {b : Bool} {bs : List Bx} {ps : List (World → Prop)}
theorem RatArg.map {n1 n2 : Bool} {xs ys : List Nat} (h : RatArg w V n1 xs n2 ys) (hs : Same32 w w') : RatArg w' V n1 xs n2 ys := by
 obtain ⟨x, v, y, u, rfl, ⟨v1, e1, h1⟩, ⟨v2, e2, h2⟩⟩ := h
 exact ⟨_, _, _, _, rfl, ⟨v1, e1, hs _ _ h1⟩, ⟨v2, e2, hs _ _ h2⟩⟩
theorem RatS.map (h : RatS w V q b) (hs : Same32 w w') : RatS w' V q b := by
 obtain ⟨n1, xs, n2, ys, h, r⟩ := h
 exact ⟨n1, xs, n2, ys, h.map hs, r⟩
theorem RatS.num (h : RatS w V q true) : RatNum w V q := by
 obtain ⟨n1, xs, n2, ys, h, e, hb, -, -⟩ := h
 have := of_decide_eq_true hb
 exact ⟨n1, xs, n2, ys, h, e, by omega, by omega⟩
theorem RatS.sz (h : RatS w V q true) : szR q ≤ 8 := by
 obtain ⟨n1, xs, n2, ys, h, rfl, hb, -, -⟩ := h
 have := of_decide_eq_true hb
 have := szR_rcnt (n1 := n1) (xs := xs) (n2 := n2) (ys := ys)
 omega
theorem RatS.open_ (h : RatS w V q b) : ∃ b A n c d B m e, V = .agg #[.bool b, .slice A n c, .bool d, .slice B m e] := by
 obtain ⟨n1, xs, n2, ys, h, -⟩ := h
 obtain ⟨A, c, B, d, rfl⟩ := h.open2
 exact ⟨_, _, _, _, _, _, _, _, rfl⟩
end
theorem szR_div' (x y : Rat) : szR (x / y) ≤ szR x + szR y + 1 := by
 by_cases hy : y = 0
 ·subst hy
  have h0 : x / 0 = 0 := by rw [Rat.div_def, Rat.inv_zero, Rat.mul_zero]
  have := szR_int 0
  rw [lenI_zero, Rat.intCast_zero] at this
  rw [h0]; omega
 ·have := szR_div x y hy; omega
end Go.Proofs.YtecibfncnaccjaaGreat
namespace Go.Proofs.YtecibfncnaccjaaGreat
def bubR : Nat → List Rat → List Rat
 | 0, l => l
 | j + 1, l => if l.getD (j + 1) 0 < l.getD j 0 then bubR j ((l.set (j + 1) (l.getD j 0)).set j (l.getD (j + 1) 0)) else l
def srtR : Nat → List Rat → List Rat
 | 0, l => l
 | k + 1, l => bubR k (srtR k l)
theorem srtR_3 (x y z : Rat) : ∃ a b c, srtR 3 [x, y, z] = [a, b, c] ∧ a ≤ b ∧ b ≤ c ∧ ([x, y, z] = [a, b, c] ∨ [x, y, z] = [a, c, b] ∨ [x, y, z] = [b, a, c] ∨ [x, y, z] = [b, c, a] ∨ [x, y, z] = [c, a, b] ∨ [x, y, z] = [c, b, a]) := by
 have e : srtR 3 [x, y, z] = bubR 2 (bubR 1 [x, y, z]) := rfl
 by_cases h1 : y < x
 ·have e1 : bubR 1 [x, y, z] = [y, x, z] := by rw [bubR]; simp [h1, bubR]
  by_cases h2 : z < x
  ·by_cases h3 : z < y
   ·refine ⟨z, y, x, ?_, ?_, ?_, by simp⟩
    ·rw [e, e1, bubR]; simp [h2, bubR, h3]
    ·grind
    ·grind
   ·refine ⟨y, z, x, ?_, ?_, ?_, by simp⟩
    ·rw [e, e1, bubR]; simp [h2, bubR, h3]
    ·grind
    ·grind
  ·refine ⟨y, x, z, ?_, ?_, ?_, by simp⟩
   ·rw [e, e1, bubR]; simp [h2]
   ·grind
   ·grind
 ·have e1 : bubR 1 [x, y, z] = [x, y, z] := by rw [bubR]; simp [h1]
  by_cases h2 : z < y
  ·by_cases h3 : z < x
   ·refine ⟨z, x, y, ?_, ?_, ?_, by simp⟩
    ·rw [e, e1, bubR]; simp [h2, bubR, h3]
    ·grind
    ·grind
   ·refine ⟨x, z, y, ?_, ?_, ?_, by simp⟩
    ·rw [e, e1, bubR]; simp [h2, bubR, h3]
    ·grind
    ·grind
  ·refine ⟨x, y, z, ?_, ?_, ?_, by simp⟩
   ·rw [e, e1, bubR]; simp [h2]
   ·grind
   ·grind
def meanT (a b c : Rat) : Rat := Rat.divInt 1 3 * (a + b + c)
def pkT (x y z : Rat) : Rat := x * (x * x) / (3 * ((x - y) * (x - z)))
def upT (a b c : Rat) : Rat := if 0 ≤ a then meanT a b c else if c ≤ 0 then 0 else if b ≤ 0 then pkT c a b else pkT (-a) (-b) (-c) + meanT a b c
def dnT (a b c : Rat) : Rat := if 0 ≤ a then 0 else if c ≤ 0 then -meanT a b c else if b ≤ 0 then pkT c a b - meanT a b c else pkT (-a) (-b) (-c)
def upV (x y z : Rat) : Rat := let l := srtR 3 [x, y, z]; upT (l.getD 0 0) (l.getD 1 0) (l.getD 2 0)
def dnV (x y z : Rat) : Rat := let l := srtR 3 [x, y, z]; dnT (l.getD 0 0) (l.getD 1 0) (l.getD 2 0)
theorem pk_nz {x y z : Rat} (h1 : 0 < x) (h2 : y ≤ 0) (h3 : z ≤ 0) : 3 * ((x - y) * (x - z)) ≠ 0 := by
 have a1 : 0 < x - y := by grind
 have a2 : 0 < x - z := by grind
 have a3 := Rat.mul_pos a1 a2
 grind
end Go.Proofs.YtecibfncnaccjaaGreat
namespace Go.Proofs.YtecibfncnaccjaaGreat
open Go.RowKit Go.Shelf

def Row4 {α : Type} (R : World → Value → α → Prop) (w : World) (A : Option Addr) (l : List α) : Prop :=
 ∀ j x, l[j]? = some x → ∃ B o c0 c1 c2 c3, A = some ⟨B, o, none⟩ ∧ (w.cell? ⟨B, o + j * 4, none⟩ = some c0 ∧ w.cell? ⟨B, o + j * 4 + 1, none⟩ = some c1 ∧ w.cell? ⟨B, o + j * 4 + 2, none⟩ = some c2 ∧ w.cell? ⟨B, o + j * 4 + 3, none⟩ = some c3) ∧ R w (.agg #[c0, c1, c2, c3]) x
def Sl4 {α : Type} (R : World → Value → α → Prop) (w : World) (V : Value) (l : List α) : Prop := ∃ A c, V = .slice A l.length c ∧ l.length ≤ c ∧ c ≤ maxLen ∧ (A = none → c = 0) ∧ Row4 R w A l
def Lasts {α : Type} (R : World → Value → α → Prop) : Prop := ∀ (w w' : World) (V : Value) (x : α), Keeps w w' → R w V x → R w' V x
theorem cell_lt {w : World} {b o : Nat} {v : Value} (h : w.cell? ⟨b, o, none⟩ = some v) : b < w.heap.size := by
 rcases Nat.lt_or_ge b w.heap.size with h1 | h1
 ·exact h1
 ·simp [World.cell?, Array.getElem?_eq_none h1] at h
theorem cell_keep {w w' : World} {b o : Nat} {v : Value} (h : w.cell? ⟨b, o, none⟩ = some v) (hk : Keeps w w') : w'.cell? ⟨b, o, none⟩ = some v :=
 (hk.cell (p := ⟨b, o, none⟩) (cell_lt h)).trans h
section
variable {α : Type} {R : World → Value → α → Prop} {w w' : World} {A : Option Addr} {V : Value} {l : List α}
theorem Row4.below (hR : Lasts R) (h : Row4 R w A l) (hk : Keeps w w') : Row4 R w' A l := fun j x hj => by
 obtain ⟨B, o, c0, c1, c2, c3, rfl, ⟨h0, h1, h2, h3⟩, hx⟩ := h j x hj
 exact ⟨B, o, c0, c1, c2, c3, rfl, ⟨cell_keep h0 hk, cell_keep h1 hk, cell_keep h2 hk, cell_keep h3 hk⟩, hR _ _ _ _ hk hx⟩
theorem Sl4.below (hR : Lasts R) (h : Sl4 R w V l) (hk : Keeps w w') : Sl4 R w' V l := by
 obtain ⟨A, c, rfl, h1, h2, h3, h4⟩ := h
 exact ⟨A, c, rfl, h1, h2, h3, h4.below hR hk⟩
theorem Row4.get (hR : Lasts R) (h : Row4 R w A l) {j : Nat} {x : α} (hj : l[j]? = some x) : ∃ B o c0 c1 c2 c3, A = some ⟨B, o, none⟩ ∧
 (∀ W, Keeps w W → W.cell? ⟨B, o + j * 4, none⟩ = some c0 ∧ W.cell? ⟨B, o + j * 4 + 1, none⟩ = some c1 ∧ W.cell? ⟨B, o + j * 4 + 2, none⟩ = some c2 ∧ W.cell? ⟨B, o + j * 4 + 3, none⟩ = some c3) ∧ ∀ W, Keeps w W → R W (.agg #[c0, c1, c2, c3]) x := by
 obtain ⟨B, o, c0, c1, c2, c3, rfl, ⟨h0, h1, h2, h3⟩, hx⟩ := h j x hj
 exact ⟨B, o, c0, c1, c2, c3, rfl, fun W hk => ⟨cell_keep h0 hk, cell_keep h1 hk, cell_keep h2 hk, cell_keep h3 hk⟩, fun W hk => hR _ _ _ _ hk hx⟩
end
theorem lasts_num : Lasts RatNum := fun _ _ _ _ hk h => h.below hk
def sumR (l : List Rat) : Rat := l.foldl (· + ·) 0
theorem sumR_snoc (l : List Rat) (q : Rat) : sumR (l ++ [q]) = sumR l + q := by simp [sumR]
theorem sumR_take {l : List Rat} {k : Nat} (h : k < l.length) : sumR (l.take (k + 1)) = sumR (l.take k) + l[k] := by
 rw [List.take_succ_eq_append_getElem h, sumR_snoc]
theorem szR_null : szR 0 ≤ 1 := szR_mk (by rw [Rat.zero_num, lenI_zero]; omega) (by rw [Rat.zero_den]; exact lenI_one)
theorem szR_sum {l : List Rat} {m : Nat} (h : ∀ q ∈ l, szR q ≤ m) : ∀ k, k ≤ l.length → szR (sumR (l.take k)) ≤ 1 + k * (m + 1)
 | 0, _ => by rw [List.take_zero]; exact Nat.le_trans szR_null (by omega)
 | k + 1, hk => by
  have := szR_sum h k (by omega)
  rw [sumR_take (by omega)]
  have h1 := szR_add (sumR (l.take k)) l[k]
  have h2 := h l[k] (List.getElem_mem _)
  rw [Nat.add_mul]
  omega
theorem St.onlyL {w0 w : World} {bs : List Bx} {ps : List (World → Prop)} (S : St w0 w bs ps) : St w0 w bs [] := ⟨S.k, S.b, S.lo, S.d, trivial⟩
theorem St.dropb {w0 w : World} {b : Bx} {bs : List Bx} {ps : List (World → Prop)} (S : St w0 w (b :: bs) ps) : St w0 w bs ps :=
 ⟨S.k, S.b.2, fun p hp => S.lo p (List.mem_cons_of_mem _ hp), (List.pairwise_cons.1 S.d).2, S.p⟩
set_option maxRecDepth 100000 in
set_option maxHeartbeats 1000000 in
theorem fsum_any {w : World} {A : Option Addr} {c : Nat} {qs : List Rat} (hr : Row4 RatNum w A qs) (hz : ∀ q ∈ qs, szR q ≤ 8) (hn : qs.length ≤ 8) : Calls Tryz.prog 108 #[.slice A qs.length c] w (RGives (sumR qs) w) := by
 have HR := Lib.hid hr
 have HZ := Lib.hid hz
 have HN := Lib.hid hn
 clear hr hz
 have y0 := szR_int 0
 have S := (St.start w)
 go_enter Tryz.func108, Tryz.ntmps108
 go_wp2_with fail
 replace S := (S.alloc 35 [.bool false, .slice none 0 0, .bool false, .slice none 0 0])
 obtain ⟨W1, eW, S⟩ := S.pack
 rw [eW]
 clear eW
 refine ((whole_num 0 (by omega) (by omega))).mono ?_
 rintro e W2 ⟨U2, rfl, hp, hk⟩
 obtain ⟨b3, A3, n3, c3, d3, B3, m3, e3, rfl⟩ := hp.open_
 replace S := (S.below hk).addQ hp
 clear hk hp
 go_wp2
 replace S := (S.alloc 35 [.bool b3, .slice A3 n3 c3, .bool d3, .slice B3 m3 e3])
 obtain ⟨W3, eW, S⟩ := S.pack
 rw [eW]
 clear eW
 generalize W2.heap.size = P1 at *
 go_loopw [9] (fun i wr => ∃ (k : Nat) (b : Bool) (A1 : Option Addr) (n1 c1 : Nat) (d : Bool) (B1 : Option Addr) (m1 e1 : Nat), k ≤ qs.length ∧ i = .int .i64 (k : Nat) ∧ St w wr [(P1, 35, [.bool b, .slice A1 n1 c1, .bool d, .slice B1 m1 e1]), (w.heap.size, 35, [.bool false, .slice none 0 0, .bool false, .slice none 0 0])] [fun w => RatRep w (.agg #[.bool b, .slice A1 n1 c1, .bool d, .slice B1 m1 e1]) (sumR (qs.take k))]) (fun i _ => qs.length - (intOf i).toNat)
 case atStart => exact ⟨0, b3, A3, n3, c3, d3, B3, m3, e3, Nat.zero_le _, rfl, by rw [List.take_zero]; exact S⟩
 case round =>
  clear S
  obtain ⟨k, b, A1, n1, c1, d, B1, m1, e1, hkd, rfl, S⟩ := hrel
  have hsz := szR_sum HZ.out k hkd
  by_cases hlt : k < qs.length
  ·obtain ⟨q, hq⟩ : ∃ q, qs[k]? = some q := ⟨_, List.getElem?_eq_getElem hlt⟩
   obtain ⟨B, o, x0, x1, x2, x3, rfl, hc, hx⟩ := HR.out.get lasts_num hq
   have hX := hx wr S.k
   obtain ⟨bx, Ax, nx, cx, dx, Bx, mx, ex, he⟩ := hX.open_
   cases he
   obtain ⟨g0, g1, g2, g3⟩ := hc wr S.k
   replace S := S.addR hX
   have hqs : qs[k] = q := by rw [List.getElem?_eq_getElem hlt] at hq; exact Option.some.inj hq
   have hq8 : szR q ≤ 8 := by rw [← hqs]; exact HZ.out _ (List.getElem_mem _)
   have hs2 := sumR_take hlt
   rw [hqs] at hs2
   generalize sumR (qs.take k) = s at *
   have HS2 := Lib.hid hs2
   have hkI : (k : Int) ≤ 8 := by omega
   clear hs2 hqs hq hc hx hX
   have y0 := szR_add s q
   have t1 : decide ((k : Int) < (qs.length : Int)) = true := by exact decide_eq_true (by omega)
   go_upto_region 5 with fail
   replace S := (S.alloc 35 [.bool bx, .slice Ax nx cx, .bool dx, .slice Bx mx ex])
   obtain ⟨W31, eW, S⟩ := S.pack
   rw [eW]
   clear eW
   generalize wr.heap.size = P31 at *
   obtain ⟨r1_0, r1_1, r1_2, r1_3⟩ := S.cc4 1 rfl
   obtain ⟨r2_0, r2_1, r2_2, r2_3⟩ := S.cc4 0 rfl
   go_wp2_with fail
   refine ((fadd_num ((S.qi 1 rfl).num (by omega)) (S.ri 0 rfl))).mono ?_
   rintro e W32 ⟨U32, rfl, hp, hk⟩
   obtain ⟨b33, A33, n33, c33, d33, B33, m33, e33, rfl⟩ := hp.open_
   replace S := (S.below hk).addQ hp
   clear hk hp
   clear r1_0 r1_1 r1_2 r1_3 r2_0 r2_1 r2_2 r2_3
   have r1_0 := S.c 1 0 rfl rfl
   have f1_0 := S.f 1 0 rfl
   have r1_1 := S.c 1 1 rfl rfl
   have f1_1 := S.f 1 1 rfl
   have r1_2 := S.c 1 2 rfl rfl
   have f1_2 := S.f 1 2 rfl
   have r1_3 := S.c 1 3 rfl rfl
   have f1_3 := S.f 1 3 rfl
   go_wp2
   replace S := (S.put4 1 rfl rfl rfl (x' := .bool b33) (y' := .slice A33 n33 c33) (z' := .bool d33) (u' := .slice B33 m33 e33))
   clear r1_0 f1_0 r1_1 f1_1 r1_2 f1_2 r1_3 f1_3
   go_roundw
   case rel => exact ⟨k + 1, b33, A33, n33, c33, d33, B33, m33, e33, by omega, by go_num, by rw [HS2.out]; exact S.dropb.onlyL.addQ (S.qi 0 rfl)⟩
   case measure => simp [intOf]; omega
  ·have HEQ := Lib.hid (show sumR qs = sumR (qs.take k) by rw [List.take_of_length_le (by omega)])
   generalize sumR (qs.take k) = s at *
   have t1 : decide ((k : Int) < (qs.length : Int)) = false := by exact decide_eq_false (by omega)
   have r0_0 := S.c 1 0 rfl rfl
   have f0_0 := S.f 1 0 rfl
   have r0_1 := S.c 1 1 rfl rfl
   have f0_1 := S.f 1 1 rfl
   have r0_2 := S.c 1 2 rfl rfl
   have f0_2 := S.f 1 2 rfl
   have r0_3 := S.c 1 3 rfl rfl
   have f0_3 := S.f 1 3 rfl
   obtain ⟨r1_0, r1_1, r1_2, r1_3⟩ := S.cc4 0 rfl
   go_wp2
   replace S := (S.put4 1 rfl rfl rfl (x' := .bool b) (y' := .slice A1 n1 c1) (z' := .bool d) (u' := .slice B1 m1 e1))
   refine bodyPost_ret (v := .agg #[.bool b, .slice A1 n1 c1, .bool d, .slice B1 m1 e1]) (by simp [results, Tryz.results108, go_sem, S.c 1 0 rfl rfl, S.c 1 1 rfl rfl, S.c 1 2 rfl rfl, S.c 1 3 rfl rfl]) rfl ?_
   exact ⟨_, rfl, by rw [HEQ.out]; exact S.qi 0 rfl, S.k⟩
end Go.Proofs.YtecibfncnaccjaaGreat
