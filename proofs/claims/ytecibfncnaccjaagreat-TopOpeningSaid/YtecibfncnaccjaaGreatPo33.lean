/- The simplest fraction of any interval. No program in sight. The walk of fraction.simplest. The walk of fraction.Simplest. The number of decimal digits; powers. No program in sight. The walks of digits and of the reference's Digits. The walk of Power. The walks of fraction.nearest, tens. Square roots: what Newton's step and halving make of them. No program in sight. The walks of fraction.counted, New, Of. -/
import Derived.Test.YtecibfncnaccjaaGreatPo32
import Derived.Test.YtecibfncnaccjaaGreatPo28
import Derived.Test.YtecibfncnaccjaaGreatPo25
import Derived.Test.YtecibfncnaccjaaGreatPo12
import Derived.Test.YtecibfncnaccjaaGreatPo8
import Derived.Test.YtecibfncnaccjaaGreatPo5
import Derived.Test.YtecibfncnaccjaaGreatPo27
namespace Go.Proofs.YtecibfncnaccjaaGreat
open Go.RowKit

end Go.Proofs.YtecibfncnaccjaaGreat
namespace Go.Proofs.YtecibfncnaccjaaGreat
open Go.RowKit Go.Shelf

end Go.Proofs.YtecibfncnaccjaaGreat
namespace Go.Proofs.YtecibfncnaccjaaGreat
open Go

end Go.Proofs.YtecibfncnaccjaaGreat
namespace Go.Proofs.YtecibfncnaccjaaGreat
open Go.RowKit Go.Shelf

end Go.Proofs.YtecibfncnaccjaaGreat
namespace Go.Proofs.YtecibfncnaccjaaGreat

def IsRoot (z : Int) (s : Nat) : Prop := if z < 0 then s = 0 else (s : Int) * s ≤ z ∧ z < ((s : Int) + 1) * (s + 1)
theorem IsRoot.zero : IsRoot 0 0 := by unfold IsRoot; rw [if_neg (by omega)]; omega
theorem IsRoot.neg {z : Int} (h : z < 0) : IsRoot z 0 := by unfold IsRoot; rw [if_pos h]
end Go.Proofs.YtecibfncnaccjaaGreat
namespace Go.Proofs.YtecibfncnaccjaaGreat
open Go.RowKit Go.Shelf

theorem IntArg.rep {w : World} {V : Value} {n : Bool} {xs : List Nat} (h : IntArg w V n xs) (hv : validB n xs = true) : IntRep w V (cnt n xs) := by
 obtain ⟨v, rfl, hu⟩ := h
 have hd := dig_mag hv
 refine ⟨v, ?_, by rw [cnt_abs, hd]; exact hu⟩
 have e : n = decide (cnt n xs < 0) := by
  cases n with
  | false =>
   have : ¬ cnt false xs < 0 := by unfold cnt sgn; simp
   exact (decide_eq_false this).symm
  | true =>
   have h0 : mag true xs ≠ 0 := fun e => by
    rw [e, dig_zero] at hd
    rw [← hd] at hv
    exact absurd hv (by decide)
   have : cnt true xs < 0 := by unfold cnt sgn; simp; omega
   exact (decide_eq_true this).symm
 conv => lhs; rw [e]
theorem cnt_not {n : Bool} {xs : List Nat} (h : validB n xs = false) : cnt n xs = 0 := by
 unfold cnt mag
 rw [if_neg (by rw [h]; decide)]
 cases n <;> rfl
set_option maxRecDepth 100000 in
set_option maxHeartbeats 1000000 in
theorem counted_num {w : World} {V : Value} {z : Int} (h : IntNum w V z) : Calls Tryz.prog 127 #[V] w (Gives z w) := by
 obtain ⟨n1, xs, h, rfl, l1⟩ := h
 obtain ⟨v, rfl, hv⟩ := h
 obtain ⟨A1, m1, c1, rfl, -⟩ := hv.open_
 have h1 : IntArg w (.agg #[.bool n1, .slice A1 m1 c1]) n1 xs := ⟨_, rfl, hv⟩
 have S := ((St.start w).alloc 33 [.bool n1, .slice A1 m1 c1]).alloc 33 [.bool false, .slice none 0 0]
 simp only [World.size_alloc] at S
 clear hv
 go_enter Tryz.func127, Tryz.ntmps127
 go_wp2_with fail
 generalize (w.alloc (.cells #[.bool n1, .slice A1 m1 c1] 33)).alloc (.cells #[.bool false, .slice none 0 0] 33) = W at *
 refine (valid_num n1 xs _ _ (h1.below S.k) l1).mono ?_
 rintro e W1 ⟨rfl, hk⟩
 replace S := S.below hk
 clear hk
 cases hb : validB n1 xs with
 | true =>
  replace S := S.addI ((h1.below S.k).rep hb)
  clear hb h1
  obtain ⟨r1_0, r1_1⟩ := S.cc2 1 rfl
  obtain ⟨r0_0, r0_1⟩ := S.cc2 0 rfl
  obtain ⟨f0_0, f0_1⟩ := S.ff2 0 rfl
  go_wp2
  replace S := S.put2 0 rfl rfl rfl (x' := .bool n1) (y' := .slice A1 m1 c1)
  refine bodyPost_ret (v := .agg #[.bool n1, .slice A1 m1 c1]) (by simp [results, Tryz.results127, go_sem, S.c 0 0 rfl rfl, S.c 0 1 rfl rfl]) rfl ?_
  exact ⟨_, rfl, S.ii 0 rfl, S.k⟩
 | false =>
  have HZ := Lib.hid (cnt_not hb)
  clear hb h1
  go_wp2_with fail
  refine (of_num 0 (by omega) (by omega)).mono ?_
  rintro e W2 ⟨U, rfl, hp, hk⟩
  obtain ⟨b5, A5, n5, c5, rfl⟩ := hp.open3
  replace S := (S.below hk).addI hp
  clear hk hp
  obtain ⟨r0_0, r0_1⟩ := S.cc2 0 rfl
  obtain ⟨f0_0, f0_1⟩ := S.ff2 0 rfl
  go_wp2
  replace S := S.put2 0 rfl rfl rfl (x' := .bool b5) (y' := .slice A5 n5 c5)
  refine bodyPost_ret (v := .agg #[.bool b5, .slice A5 n5 c5]) (by simp [results, Tryz.results127, go_sem, S.c 0 0 rfl rfl, S.c 0 1 rfl rfl]) rfl ?_
  exact ⟨_, rfl, by rw [HZ.out]; exact S.ii 0 rfl, S.k⟩

def newC (b : Int) : Int := if b = 0 then 14 else 0
set_option maxRecDepth 100000 in
set_option maxHeartbeats 1000000 in
theorem fnew_num {w : World} {V1 V2 : Value} {a b : Int} (h1 : IntNum w V1 a) (h2 : IntNum w V2 b) : Calls Tryz.prog 105 #[V1, V2] w (RCode (newC b) (Rat.divInt a b) w) := by
 have la := h1.len
 have lb := h2.len
 obtain ⟨b1, A1, n1, c1, rfl⟩ := h1.open_
 obtain ⟨b2, A2, n2, c2, rfl⟩ := h2.open_
 have S := (((St.start w).alloc 33 [.bool b1, .slice A1 n1 c1]).alloc 33 [.bool b2, .slice A2 n2 c2]).alloc 35 [.bool false, .slice none 0 0, .bool false, .slice none 0 0]
 simp only [World.size_alloc] at S
 go_enter Tryz.func105, Tryz.ntmps105
 go_wp2_with fail
 generalize ((w.alloc (.cells #[.bool b1, .slice A1 n1 c1] 33)).alloc (.cells #[.bool b2, .slice A2 n2 c2] 33)).alloc (.cells #[.bool false, .slice none 0 0, .bool false, .slice none 0 0] 35) = W at *
 refine wp_region_steps (m := 4) rfl (by kernel_rfl) (fun iF vF wF => (List.getD [fun vF _ => vF = .agg #[.bool b1, .slice A1 n1 c1], fun vF wF => IntRep wF vF (a), fun vF _ => vF = .agg #[.bool b2, .slice A2 n2 c2], fun vF wF => IntRep wF vF (b)] iF (fun _ _ => True)) vF wF) [] ?_ ?_ ?_
 ·intro i v w w' hi h hk
  rcases (show i = 0 ∨ i = 1 ∨ i = 2 ∨ i = 3 by omega) with rfl | rfl | rfl | rfl
  all_goals simp only [gz, gs] at h ⊢
  all_goals first | exact h | exact IntRep.below h hk | exact RatRep.below h hk
 ·intro i hi vs w3 hk3 hd
  have S3 := S.drew.below hk3
  obtain ⟨a0, a1⟩ := S3.cc2 2 rfl
  obtain ⟨a2, a3⟩ := S3.cc2 1 rfl
  match i, hi with
  | 0, _ =>
   refine step_yes [] rfl (by kernel_rfl) fun K hK => ?_; simp only [frD] at hK ⊢; refine ⟨by rfl, ?_⟩; go_simp
   exact hK _ _ ⟨Below.refl _ _, rfl, by simp⟩
  | 1, _ =>
   have e0 := hd 0 (cm (by kernel_rfl)); simp only [gz] at e0
   refine step_yes [(0, some 6)] rfl (by kernel_rfl) fun K hK => ?_; simp only [frD, e0] at hK ⊢; refine ⟨by rfl, ?_⟩; go_simp
   refine (counted_num (h1.below S3.k)).mono ?_; rintro e w4 ⟨U, rfl, hr, hk4⟩; exact hK _ _ ⟨hk4, hr, by simp⟩
  | 2, _ =>
   refine step_yes [] rfl (by kernel_rfl) fun K hK => ?_; simp only [frD] at hK ⊢; refine ⟨by rfl, ?_⟩; go_simp
   exact hK _ _ ⟨Below.refl _ _, rfl, by simp⟩
  | 3, _ =>
   have h1 := hd 1 (cm (by kernel_rfl)); simp only [gz, gs] at h1; have e2 := hd 2 (cm (by kernel_rfl)); simp only [gz, gs] at e2
   refine step_yes [(1, some 7), (2, some 8)] rfl (by kernel_rfl) fun K hK => ?_; simp only [frD, e2] at hK ⊢; refine ⟨by rfl, ?_⟩; go_simp
   refine (counted_num (h2.below S3.k)).mono ?_; rintro e w4 ⟨U, rfl, hr, hk4⟩; exact hK _ _ ⟨hk4, hr, by simp⟩
  | i + 4, hi => exact absurd hi (by omega)
 ·intro vs wpa hk3 hΦ _
  simp only [List.drop_succ_cons, List.drop_zero]
  rw [fr_frD, show (List.range 4).map _ = [(0, some 6), (1, some 7), (2, some 8), (3, some 9)] by kernel_rfl]
  have pa0 := hΦ 0 (by omega); simp only [gz] at pa0
  have pa1 := hΦ 1 (by omega); simp only [gz, gs] at pa1
  have pa2 := hΦ 2 (by omega); simp only [gz, gs] at pa2
  have pa3 := hΦ 3 (by omega); simp only [gz, gs] at pa3
  clear hΦ
  simp only [frD, pa0, pa2]
  simp only [Act.put, List.setIfInBounds_toArray, List.set_cons_zero, List.set_cons_succ]
  clear pa0 pa2
  generalize vs 1 = U1 at pa1 ⊢
  generalize vs 3 = U3 at pa3 ⊢
  replace S := S.drew.below hk3
  obtain ⟨b3, A3, n3, c3, rfl⟩ := pa1.open3
  obtain ⟨b4, A4, n4, c4, rfl⟩ := pa3.open3
  replace S := (S.addN (pa1.num la)).addN (pa3.num lb)
  obtain ⟨r2_0, r2_1⟩ := S.cc2 2 rfl
  obtain ⟨r1_0, r1_1⟩ := S.cc2 1 rfl
  obtain ⟨f2_0, f2_1⟩ := S.ff2 2 rfl
  obtain ⟨f1_0, f1_1⟩ := S.ff2 1 rfl
  go_upto_region 2 with fail
  replace S := (S.put2 2 rfl rfl rfl (x' := .bool b3) (y' := .slice A3 n3 c3)).put2 1 rfl rfl rfl (x' := .bool b4) (y' := .slice A4 n4 c4)
  generalize (((wpa.setCell ⟨w.heap.size, 0, none⟩ (.bool b3)).setCell ⟨w.heap.size, 1, none⟩ (.slice A3 n3 c3)).setCell ⟨w.heap.size + 1, 0, none⟩ (.bool b4)).setCell ⟨w.heap.size + 1, 1, none⟩ (.slice A4 n4 c4) = W4 at S ⊢
  clear r2_0 r2_1 r1_0 r1_1 f2_0 f2_1 f1_0 f1_1 pa1 pa3 hk3 h1 h2
  obtain ⟨r1_0, r1_1⟩ := S.cc2 1 rfl
  by_cases hb0 : b = 0
  ·have hs : b.sign = 0 := by rw [hb0]; rfl
   have HC := Lib.hid (show newC b = 14 from if_pos hb0)
   clear hb0
   go_wp2_with fail
   refine (sign_s (S.ni 0 rfl) hs).mono ?_
   rintro e W5 ⟨rfl, hk⟩
   replace S := S.below hk
   clear hk hs r1_0 r1_1
   obtain ⟨r0_0, r0_1, r0_2, r0_3⟩ := S.cc4 0 rfl
   obtain ⟨f0_0, f0_1, f0_2, f0_3⟩ := S.ff4 0 rfl
   go_wp2
   replace S := S.put4 0 rfl rfl rfl (x' := .bool false) (y' := .slice none 0 0) (z' := .bool false) (u' := .slice none 0 0)
   refine bodyPost_ret (v := .tuple #[.agg #[.bool false, .slice none 0 0, .bool false, .slice none 0 0], .int .i64 14]) (by simp [results, Tryz.results105, go_sem, S.c 0 0 rfl rfl, S.c 0 1 rfl rfl, S.c 0 2 rfl rfl, S.c 0 3 rfl rfl]) rfl ?_
   exact ⟨_, by rw [HC.out], by rw [HC.out, if_neg (by decide)]; rfl, S.k⟩
  ·obtain ⟨s, hs⟩ : ∃ s, b.sign = s := ⟨_, rfl⟩
   have hs0 : s ≠ 0 := by
    intro e
    rw [← hs, Int.sign_eq_zero_iff_zero] at e
    exact hb0 e
   have hsb : (s == 0) = false := by simpa using hs0
   have HC := Lib.hid (show newC b = 0 from if_neg hb0)
   have HB := Lib.hid hb0
   clear hb0
   go_wp2_with fail
   refine (sign_s (S.ni 0 rfl) hs).mono ?_
   rintro e W5 ⟨rfl, hk⟩
   replace S := S.below hk
   clear hk hs hs0 r1_0 r1_1
   obtain ⟨r1_0, r1_1⟩ := S.cc2 1 rfl
   obtain ⟨r2_0, r2_1⟩ := S.cc2 2 rfl
   go_wp2_with fail
   refine (reduced_num (S.ni 1 rfl) (S.ni 0 rfl) HB.out).mono ?_
   rintro e W6 ⟨U, rfl, hp, hk⟩
   obtain ⟨b5, A5, n5, c5, d5, B5, m5, e5, rfl⟩ := hp.open_
   replace S := (S.below hk).addQ hp
   clear hk hp r1_0 r1_1 r2_0 r2_1
   obtain ⟨r0_0, r0_1, r0_2, r0_3⟩ := S.cc4 0 rfl
   obtain ⟨f0_0, f0_1, f0_2, f0_3⟩ := S.ff4 0 rfl
   go_wp2
   replace S := S.put4 0 rfl rfl rfl (x' := .bool b5) (y' := .slice A5 n5 c5) (z' := .bool d5) (u' := .slice B5 m5 e5)
   refine bodyPost_ret (v := .tuple #[.agg #[.bool b5, .slice A5 n5 c5, .bool d5, .slice B5 m5 e5], .int .i64 0]) (by simp [results, Tryz.results105, go_sem, S.c 0 0 rfl rfl, S.c 0 1 rfl rfl, S.c 0 2 rfl rfl, S.c 0 3 rfl rfl]) rfl ?_
   exact ⟨_, by rw [HC.out], by rw [HC.out, if_pos rfl]; exact S.qi 0 rfl, S.k⟩

set_option maxRecDepth 100000 in
set_option maxHeartbeats 1000000 in
theorem fof_num {w : World} (n d : Int) (h1 : -9223372036854775808 ≤ n) (h2 : n ≤ 9223372036854775807) (h3 : -9223372036854775808 ≤ d) (h4 : d ≤ 9223372036854775807) :
 Calls Tryz.prog 73 #[.int .i64 n, .int .i64 d] w (RCode (newC d) (Rat.divInt n d) w) := by
 have S := (St.start w).alloc 35 [.bool false, .slice none 0 0, .bool false, .slice none 0 0]
 have ln : lenI n ≤ 3 := dig_length_le (by omega)
 have ld : lenI d ≤ 3 := dig_length_le (by omega)
 go_enter Tryz.func73, Tryz.ntmps73
 go_wp2_with fail
 generalize w.alloc (.cells #[.bool false, .slice none 0 0, .bool false, .slice none 0 0] 35) = W at *
 refine (of_num n h1 h2).mono ?_
 rintro e W1 ⟨U1, rfl, hp, hk⟩
 replace S := (S.below hk).addN (hp.num (by omega))
 clear hk hp
 go_wp2_with fail
 refine (of_num d h3 h4).mono ?_
 rintro e W2 ⟨U2, rfl, hp, hk⟩
 replace S := (S.below hk).addN (hp.num (by omega))
 clear hk hp
 go_wp2_with fail
 obtain ⟨c, hc⟩ : ∃ c, newC d = c := ⟨_, rfl⟩
 have hn := fnew_num (S.ni 1 rfl) (S.ni 0 rfl)
 have HCC := Lib.hid hc
 rw [hc] at hn
 refine hn.mono ?_
 clear hn hc
 rintro e W3 ⟨U3, rfl, hq, hk⟩
 by_cases h0 : c = 0
 ·rw [if_pos h0] at hq
  obtain ⟨b5, A5, n5, c5, d5, B5, m5, e5, rfl⟩ := hq.open_
  have HC := Lib.hid h0
  replace S := (S.below hk).addQ hq
  clear hk hq h0
  obtain ⟨r0_0, r0_1, r0_2, r0_3⟩ := S.cc4 0 rfl
  obtain ⟨f0_0, f0_1, f0_2, f0_3⟩ := S.ff4 0 rfl
  go_wp2
  replace S := S.put4 0 rfl rfl rfl (x' := .bool b5) (y' := .slice A5 n5 c5) (z' := .bool d5) (u' := .slice B5 m5 e5)
  refine bodyPost_ret (v := .tuple #[.agg #[.bool b5, .slice A5 n5 c5, .bool d5, .slice B5 m5 e5], .int .i64 c]) (by simp [results, Tryz.results73, go_sem, S.c 0 0 rfl rfl, S.c 0 1 rfl rfl, S.c 0 2 rfl rfl, S.c 0 3 rfl rfl]) rfl ?_
  exact ⟨_, by rw [HCC.out], by rw [HCC.out, if_pos HC.out]; exact S.qi 0 rfl, S.k⟩
 ·rw [if_neg h0] at hq
  unfold zeroRat at hq
  subst hq
  have HC := Lib.hid h0
  replace S := S.below hk
  clear hk h0
  obtain ⟨r0_0, r0_1, r0_2, r0_3⟩ := S.cc4 0 rfl
  obtain ⟨f0_0, f0_1, f0_2, f0_3⟩ := S.ff4 0 rfl
  go_wp2
  replace S := S.put4 0 rfl rfl rfl (x' := .bool false) (y' := .slice none 0 0) (z' := .bool false) (u' := .slice none 0 0)
  refine bodyPost_ret (v := .tuple #[.agg #[.bool false, .slice none 0 0, .bool false, .slice none 0 0], .int .i64 c]) (by simp [results, Tryz.results73, go_sem, S.c 0 0 rfl rfl, S.c 0 1 rfl rfl, S.c 0 2 rfl rfl, S.c 0 3 rfl rfl]) rfl ?_
  exact ⟨_, by rw [HCC.out], by rw [HCC.out, if_neg HC.out]; rfl, S.k⟩
end Go.Proofs.YtecibfncnaccjaaGreat
