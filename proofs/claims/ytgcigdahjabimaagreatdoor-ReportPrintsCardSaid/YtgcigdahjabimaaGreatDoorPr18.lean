/- Divisors and quotients in the common form; boxes opened. The walk of fraction.reduced. The walks of fraction.Valid, copied, Whole, Value. -/
import Derived.Test.YtgcigdahjabimaaGreatDoorPr9
import Derived.Test.YtgcigdahjabimaaGreatDoorPr15
import Derived.Test.YtgcigdahjabimaaGreatDoorPr17
namespace Go.Proofs.YtgcigdahjabimaaGreatDoor
open Go.RowKit Go.Shelf

theorem IntNum.len {w : World} {V : Value} {z : Int} (h : IntNum w V z) : lenI z ≤ 900000 := by
 obtain ⟨n, xs, -, rfl, l⟩ := h
 have := lenI_cnt n xs
 omega
theorem gcd_num {w : World} {V1 V2 : Value} {x y : Int} (h1 : IntNum w V1 x) (h2 : IntNum w V2 y) : Calls Tryz.prog 88 #[V1, V2] w (Gives (Int.gcd x y : Int) w) := by
 obtain ⟨n1, xs, h1, rfl, l1⟩ := h1
 obtain ⟨n2, ys, h2, rfl, l2⟩ := h2
 have := gcd_any n1 n2 xs ys V1 V2 w h1 h2 l1 l2
 rwa [← cnt_abs n1 xs, ← cnt_abs n2 ys] at this
theorem rgcd_num {w : World} {V1 V2 : Value} {x y : Int} (h1 : IntNum w V1 x) (h2 : IntNum w V2 y) : Calls Tryz.prog 67 #[V1, V2] w (Gives (Int.gcd x y : Int) w) := by
 obtain ⟨n1, xs, h1, rfl, l1⟩ := h1
 obtain ⟨n2, ys, h2, rfl, l2⟩ := h2
 have := rgcd_any n1 n2 xs ys V1 V2 w h1 h2 l1 l2
 rwa [← cnt_abs n1 xs, ← cnt_abs n2 ys] at this
theorem of_num {w : World} (z : Int) (h1 : -9223372036854775808 ≤ z) (h2 : z ≤ 9223372036854775807) : Calls Tryz.prog 44 #[.int .i64 z] w (Gives z w) := of_any z w h1 h2
theorem rof_num {w : World} (z : Int) (h1 : -9223372036854775808 ≤ z) (h2 : z ≤ 9223372036854775807) : Calls Tryz.prog 110 #[.int .i64 z] w (Gives z w) := rof_any z w h1 h2
def DivGives (q r : Int) (w : World) (e : Ending) (w' : World) : Prop := ∃ Q R, e = .returned (.tuple #[Q, R, .int .i64 0]) ∧ IntRep w' Q q ∧ IntRep w' R r ∧ Keeps w w'
theorem divide_num {w : World} {V1 V2 : Value} {x y q : Int} (h1 : IntNum w V1 x) (h2 : IntNum w V2 y) (hy : y ≠ 0) (eq : x.fdiv y = q) : Calls Tryz.prog 136 #[V1, V2] w (DivGives q (x.fmod y) w) := by
 obtain ⟨n1, xs, h1, rfl, l1⟩ := h1
 obtain ⟨n2, ys, h2, rfl, l2⟩ := h2
 subst eq
 have := divide_any n1 n2 xs ys V1 V2 w h1 h2 (by omega) (by omega)
 rwa [show divC (cnt n2 ys) = 0 from if_neg hy, show divQ (cnt n1 xs) (cnt n2 ys) = _ from if_neg hy, show divR (cnt n1 xs) (cnt n2 ys) = _ from if_neg hy] at this
def IntNum4 (w : World) (V : Value) (z : Int) : Prop := ∃ neg xs, IntArg w V neg xs ∧ cnt neg xs = z ∧ xs.length ≤ 400000
theorem rdivide_num {w : World} {V1 V2 : Value} {x y q : Int} (h1 : IntNum4 w V1 x) (h2 : IntNum4 w V2 y) (hy : y ≠ 0) (eq : x.fdiv y = q) : Calls Tryz.prog 98 #[V1, V2] w (DivGives q (x.fmod y) w) := by
 obtain ⟨n1, xs, h1, rfl, l1⟩ := h1
 obtain ⟨n2, ys, h2, rfl, l2⟩ := h2
 subst eq
 have := rdivide_any n1 n2 xs ys V1 V2 w h1 h2 l1 l2
 rwa [show divC (cnt n2 ys) = 0 from if_neg hy, show divQ (cnt n1 xs) (cnt n2 ys) = _ from if_neg hy, show divR (cnt n1 xs) (cnt n2 ys) = _ from if_neg hy] at this
theorem IntNum.open_ {w : World} {V : Value} {z : Int} (h : IntNum w V z) : ∃ b A n c, V = .agg #[.bool b, .slice A n c] := by
 obtain ⟨neg, xs, ⟨v, rfl, hv⟩, -, -⟩ := h
 obtain ⟨A, n, c, rfl, -⟩ := hv.open_
 exact ⟨neg, A, n, c, rfl⟩
theorem IntRep.open3 {w : World} {V : Value} {z : Int} (h : IntRep w V z) : ∃ b A n c, V = .agg #[.bool b, .slice A n c] := by
 obtain ⟨A, n, c, rfl, -⟩ := h.open_
 exact ⟨_, A, n, c, rfl⟩
theorem RatRep.nn {w : World} {x v y u : Value} {q : Rat} (h : RatRep w (.agg #[x, v, y, u]) q) (hl : szR q ≤ 100000) : IntNum w (.agg #[x, v]) q.num := h.n.num (by have := szR_num hl; omega)
theorem RatRep.dn {w : World} {x v y u : Value} {q : Rat} (h : RatRep w (.agg #[x, v, y, u]) q) (hl : szR q ≤ 100000) : IntNum w (.agg #[y, u]) (q.den : Int) := h.d.num (by have := szR_den hl; omega)
theorem run_field_num (x v y u : Value) (W : World) : Sem.run Tryz.prog (Instr.field 31 (.agg #[x, v, y, u]) 0) W = .ok (.agg #[x, v]) W := by kernel_rfl
theorem rgives_eq {P : Program} {F : FuncId} {args : Array Value} {w : World} {q q' : Rat} (h : Calls P F args w (RGives q w)) (e : q = q') : Calls P F args w (RGives q' w) := by subst e; exact h
theorem gcd_ne {a b : Int} (h : 0 < b) : ((Int.gcd a b : Nat) : Int) ≠ 0 := by
 have := Int.gcd_pos_of_ne_zero_right a (show b ≠ 0 by omega)
 omega
theorem lenI_gcd {a b : Int} (h : 0 < b) : lenI (Int.gcd a b : Nat) ≤ lenI b := by
 have := Int.gcd_le_natAbs_right (a := a) (b := b) (by omega)
 exact lenR_mono (by omega)

set_option maxRecDepth 100000 in
set_option maxHeartbeats 1000000 in
theorem reduced_num {w : World} {V1 V2 : Value} {a b : Int} (h1 : IntNum w V1 a) (h2 : IntNum w V2 b) (hb : b ≠ 0) : Calls Tryz.prog 93 #[V1, V2] w (RGives (Rat.divInt a b) w) := by
 have la := h1.len
 have lb := h2.len
 obtain ⟨b1, A1, n1, c1, rfl⟩ := h1.open_
 obtain ⟨b2, A2, n2, c2, rfl⟩ := h2.open_
 have S := (((((St.start w).addN h1).addN h2).alloc 29 [.bool b1, .slice A1 n1 c1]).alloc 29 [.bool b2, .slice A2 n2 c2]).alloc 31 [.bool false, .slice none 0 0, .bool false, .slice none 0 0]
 simp only [World.size_alloc] at S
 have hsz := szR_divInt a b hb
 go_enter Tryz.func93, Tryz.ntmps93
 go_wp2_with fail
 generalize ((w.alloc (.cells #[.bool b1, .slice A1 n1 c1] 29)).alloc (.cells #[.bool b2, .slice A2 n2 c2] 29)).alloc (.cells #[.bool false, .slice none 0 0, .bool false, .slice none 0 0] 31) = W at *
 have HL1 := Lib.hid (Nat.le_trans (szR_num (Nat.le_refl (szR (Rat.divInt a b)))) hsz)
 have HL2 := Lib.hid (Nat.le_trans (szR_den (Nat.le_refl (szR (Rat.divInt a b)))) hsz)
 rcases Int.lt_or_gt_of_ne hb with hb0 | hb0
 ·refine (sign_s (S.ni 0 rfl) (Int.sign_eq_neg_one_of_neg hb0)).mono ?_
  rintro e W1 ⟨rfl, hk⟩
  replace S := S.below hk
  clear hk
  have HG0 := Lib.hid (gcd_ne (a := -a) (b := -b) (by omega))
  have HLG := Lib.hid (lenI_gcd (a := -a) (b := -b) (by omega))
  have HE1 := Lib.hid (red_neg (a := a) hb0).1
  have HE2 := Lib.hid (red_neg (a := a) hb0).2
  have la2 := lenI_neg a
  have lb2 := lenI_neg b
  clear hb hb0 hsz h1 h2
  go_wp2_with fail
  refine wp_region_steps (m := 4) rfl (by kernel_rfl) (fun iF vF wF => (List.getD [fun vF _ => vF = .agg #[.bool b1, .slice A1 n1 c1], fun vF wF => IntRep wF vF (-a), fun vF _ => vF = .agg #[.bool b2, .slice A2 n2 c2], fun vF wF => IntRep wF vF (-b)] iF (fun _ _ => True)) vF wF) [] ?_ ?_ ?_
  ·intro i v w w' hi h hk
   rcases (show i = 0 ∨ i = 1 ∨ i = 2 ∨ i = 3 by omega) with rfl | rfl | rfl | rfl
   all_goals simp only [gz, gs] at h ⊢
   all_goals first | exact h | exact IntRep.below h hk | exact RatRep.below h hk
  ·intro i hi vs w3 hk3 hd
   have S3 := S.drew.below hk3
   obtain ⟨a0, a1⟩ := S3.cc2 2 rfl
   obtain ⟨a2, a3⟩ := S3.cc2 1 rfl
   match i, hi with
   | 0, _ =>
    refine step_yes [] rfl (by kernel_rfl) fun K hK => ?_; simp only [frD] at hK ⊢; refine ⟨by rfl, ?_⟩; go_simp
    exact hK _ _ ⟨Below.refl _ _, rfl, by simp⟩
   | 1, _ =>
    have e0 := hd 0 (cm (by kernel_rfl)); simp only [gz] at e0
    refine step_yes [(0, some 9)] rfl (by kernel_rfl) fun K hK => ?_; simp only [frD, e0] at hK ⊢; refine ⟨by rfl, ?_⟩; go_simp
    refine (neg_num (S3.ni 1 rfl)).mono ?_; rintro e w4 ⟨U, rfl, hr, hk4⟩; exact hK _ _ ⟨hk4, hr, by simp⟩
   | 2, _ =>
    refine step_yes [] rfl (by kernel_rfl) fun K hK => ?_; simp only [frD] at hK ⊢; refine ⟨by rfl, ?_⟩; go_simp
    exact hK _ _ ⟨Below.refl _ _, rfl, by simp⟩
   | 3, _ =>
    have h1 := hd 1 (cm (by kernel_rfl)); simp only [gz, gs] at h1; have e2 := hd 2 (cm (by kernel_rfl)); simp only [gz, gs] at e2
    refine step_yes [(1, some 10), (2, some 11)] rfl (by kernel_rfl) fun K hK => ?_; simp only [frD, e2] at hK ⊢; refine ⟨by rfl, ?_⟩; go_simp
    refine (neg_num (S3.ni 0 rfl)).mono ?_; rintro e w4 ⟨U, rfl, hr, hk4⟩; exact hK _ _ ⟨hk4, hr, by simp⟩
   | i + 4, hi => exact absurd hi (by omega)
  ·intro vs wph hk3 hΦ _
   simp only [List.drop_succ_cons, List.drop_zero]
   rw [fr_frD, show (List.range 4).map _ = [(0, some 9), (1, some 10), (2, some 11), (3, some 12)] by kernel_rfl]
   have ph0 := hΦ 0 (by omega); simp only [gz] at ph0
   have ph1 := hΦ 1 (by omega); simp only [gz, gs] at ph1
   have ph2 := hΦ 2 (by omega); simp only [gz, gs] at ph2
   have ph3 := hΦ 3 (by omega); simp only [gz, gs] at ph3
   clear hΦ
   simp only [frD, ph0, ph2]
   simp only [Act.put, List.setIfInBounds_toArray, List.set_cons_zero, List.set_cons_succ]
   clear ph0 ph2
   generalize vs 1 = U1 at ph1 ⊢
   generalize vs 3 = U3 at ph3 ⊢
   replace S := S.drew.below hk3
   obtain ⟨b3, A3, n3, c3, rfl⟩ := ph1.open3
   obtain ⟨b4, A4, n4, c4, rfl⟩ := ph3.open3
   replace S := (S.addN (ph1.num (by omega))).addN (ph3.num (by omega))
   obtain ⟨r0, r1⟩ := S.cc2 2 rfl
   obtain ⟨r2, r3⟩ := S.cc2 1 rfl
   obtain ⟨f0, f1⟩ := S.ff2 2 rfl
   obtain ⟨f2, f3⟩ := S.ff2 1 rfl
   go_upto_region 3 with fail
   replace S := (S.put2 2 rfl rfl rfl (x' := .bool b3) (y' := .slice A3 n3 c3)).put2 1 rfl rfl rfl (x' := .bool b4) (y' := .slice A4 n4 c4)
   generalize (((wph.setCell ⟨w.heap.size, 0, none⟩ (.bool b3)).setCell ⟨w.heap.size, 1, none⟩ (.slice A3 n3 c3)).setCell ⟨w.heap.size + 1, 0, none⟩ (.bool b4)).setCell ⟨w.heap.size + 1, 1, none⟩ (.slice A4 n4 c4) = W4 at S ⊢
   clear r0 r1 r2 r3 f0 f1 f2 f3 ph1 ph3 hk3
   obtain ⟨r0, r1⟩ := S.cc2 2 rfl
   obtain ⟨r2, r3⟩ := S.cc2 1 rfl
   go_wp2_with fail
   refine (gcd_num (S.ni 1 rfl) (S.ni 0 rfl)).mono ?_
   rintro e W2 ⟨U, rfl, hg, hk⟩
   replace hg := hg.num (by have := HLG.out; omega)
   obtain ⟨bg, Ag, ng, cg, rfl⟩ := hg.open_
   replace S := S.below hk
   have lt2 : w.heap.size + 1 + 1 < W2.heap.size := (S.o 0 rfl).lt
   replace S := (S.addN hg).alloc 29 [.bool bg, .slice Ag ng cg]
   clear hk hg r0 r1 r2 r3
   obtain ⟨r0, r1⟩ := S.cc2 3 rfl
   obtain ⟨r2, r3⟩ := S.cc2 0 rfl
   go_wp2_with fail
   generalize hB : W2.heap.size = B at *
   generalize hW : W2.alloc (.cells #[.bool bg, .slice Ag ng cg] 29) = W at *
   clear hW hB
   refine (divide_num (S.ni (1 + 1) rfl) (S.ni 0 rfl) HG0.out HE1.out).mono ?_
   rintro e W3 ⟨Q, R, rfl, hq, hr, hk⟩
   clear hr r0 r1 r2 r3
   obtain ⟨bq, Aq, nq, cq, rfl⟩ := hq.open3
   replace S := S.below hk
   obtain ⟨r0, r1⟩ := S.cc2 3 rfl
   obtain ⟨r2, r3⟩ := S.cc2 2 rfl
   obtain ⟨r4, r5⟩ := S.cc2 0 rfl
   obtain ⟨f0, f1⟩ := S.ff2 3 rfl
   go_wp2_with fail
   replace S := (S.addI hq).put2 3 rfl rfl rfl (x' := .bool bq) (y' := .slice Aq nq cq)
   generalize (W3.setCell ⟨w.heap.size, 0, none⟩ (.bool bq)).setCell ⟨w.heap.size, 1, none⟩ (.slice Aq nq cq) = W at S ⊢
   clear hk hq r0 r1 r2 r3 r4 r5 f0 f1
   refine (divide_num (S.ni (0 + 2) rfl) (S.ni 1 rfl) HG0.out HE2.out).mono ?_
   rintro e W5 ⟨Q, R, rfl, hq, hr, hk⟩
   clear hr
   obtain ⟨bd, Ad, nd, cd, rfl⟩ := hq.open3
   replace S := S.below hk
   obtain ⟨r0, r1⟩ := S.cc2 3 rfl
   obtain ⟨r2, r3⟩ := S.cc2 2 rfl
   obtain ⟨r4, r5, r6, r7⟩ := S.cc4 1 rfl
   obtain ⟨f0, f1⟩ := S.ff2 2 rfl
   obtain ⟨f2, f3, f4, f5⟩ := S.ff4 1 rfl
   go_wp2
   replace S := ((S.addI hq).put2 2 rfl rfl rfl (x' := .bool bd) (y' := .slice Ad nd cd)).put4 1 rfl rfl rfl (x' := .bool bq) (y' := .slice Aq nq cq) (z' := .bool bd) (u' := .slice Ad nd cd)
   refine bodyPost_ret (v := .agg #[.bool bq, .slice Aq nq cq, .bool bd, .slice Ad nd cd]) (by simp [results, Tryz.results93, go_sem, S.c 1 0 rfl rfl, S.c 1 1 rfl rfl, S.c 1 2 rfl rfl, S.c 1 3 rfl rfl]) rfl ?_
   exact ⟨_, rfl, RatRep.mk (S.ii 1 rfl) (S.ii 0 rfl) rfl rfl, S.k⟩
 ·have HG0 := Lib.hid (gcd_ne (a := a) hb0)
  have HLG := Lib.hid (lenI_gcd (a := a) hb0)
  have HE1 := Lib.hid (red_pos (a := a) hb0).1
  have HE2 := Lib.hid (red_pos (a := a) hb0).2
  refine (sign_s (S.ni 0 rfl) (Int.sign_eq_one_of_pos hb0)).mono ?_
  clear hb hb0 hsz h1 h2
  rintro e W1 ⟨rfl, hk⟩
  replace S := S.below hk
  clear hk
  obtain ⟨r0, r1⟩ := S.cc2 2 rfl
  obtain ⟨r2, r3⟩ := S.cc2 1 rfl
  go_wp2_with fail
  refine (gcd_num (S.ni 1 rfl) (S.ni 0 rfl)).mono ?_
  rintro e W2 ⟨U, rfl, hg, hk⟩
  replace hg := hg.num (by have := HLG.out; omega)
  obtain ⟨bg, Ag, ng, cg, rfl⟩ := hg.open_
  replace S := S.below hk
  have lt2 : w.heap.size + 1 + 1 < W2.heap.size := (S.o 0 rfl).lt
  replace S := (S.addN hg).alloc 29 [.bool bg, .slice Ag ng cg]
  clear hk hg r0 r1 r2 r3
  obtain ⟨r0, r1⟩ := S.cc2 3 rfl
  obtain ⟨r2, r3⟩ := S.cc2 0 rfl
  go_wp2_with fail
  generalize hB : W2.heap.size = B at *
  generalize hW : W2.alloc (.cells #[.bool bg, .slice Ag ng cg] 29) = W at *
  clear hW hB
  refine (divide_num (S.ni (1 + 1) rfl) (S.ni 0 rfl) HG0.out HE1.out).mono ?_
  rintro e W3 ⟨Q, R, rfl, hq, hr, hk⟩
  clear hr r0 r1 r2 r3
  obtain ⟨bq, Aq, nq, cq, rfl⟩ := hq.open3
  replace S := S.below hk
  obtain ⟨r0, r1⟩ := S.cc2 3 rfl
  obtain ⟨r2, r3⟩ := S.cc2 2 rfl
  obtain ⟨r4, r5⟩ := S.cc2 0 rfl
  obtain ⟨f0, f1⟩ := S.ff2 3 rfl
  go_wp2_with fail
  replace S := (S.addI hq).put2 3 rfl rfl rfl (x' := .bool bq) (y' := .slice Aq nq cq)
  generalize (W3.setCell ⟨w.heap.size, 0, none⟩ (.bool bq)).setCell ⟨w.heap.size, 1, none⟩ (.slice Aq nq cq) = W at S ⊢
  clear hk hq r0 r1 r2 r3 r4 r5 f0 f1
  refine (divide_num (S.ni (0 + 2) rfl) (S.ni 1 rfl) HG0.out HE2.out).mono ?_
  rintro e W5 ⟨Q, R, rfl, hq, hr, hk⟩
  clear hr
  obtain ⟨bd, Ad, nd, cd, rfl⟩ := hq.open3
  replace S := S.below hk
  obtain ⟨r0, r1⟩ := S.cc2 3 rfl
  obtain ⟨r2, r3⟩ := S.cc2 2 rfl
  obtain ⟨r4, r5, r6, r7⟩ := S.cc4 1 rfl
  obtain ⟨f0, f1⟩ := S.ff2 2 rfl
  obtain ⟨f2, f3, f4, f5⟩ := S.ff4 1 rfl
  go_wp2
  replace S := ((S.addI hq).put2 2 rfl rfl rfl (x' := .bool bd) (y' := .slice Ad nd cd)).put4 1 rfl rfl rfl (x' := .bool bq) (y' := .slice Aq nq cq) (z' := .bool bd) (u' := .slice Ad nd cd)
  refine bodyPost_ret (v := .agg #[.bool bq, .slice Aq nq cq, .bool bd, .slice Ad nd cd]) (by simp [results, Tryz.results93, go_sem, S.c 1 0 rfl rfl, S.c 1 1 rfl rfl, S.c 1 2 rfl rfl, S.c 1 3 rfl rfl]) rfl ?_
  exact ⟨_, rfl, RatRep.mk (S.ii 1 rfl) (S.ii 0 rfl) rfl rfl, S.k⟩
set_option maxRecDepth 100000 in
set_option maxHeartbeats 1000000 in
theorem fvalid_any {w : World} {V : Value} {n1 n2 : Bool} {xs ys : List Nat} (h : RatArg w V n1 xs n2 ys) (l1 : xs.length ≤ 100000) (l2 : ys.length ≤ 100000) :
 Calls Tryz.prog 41 #[V] w fun e w' => e = .returned (.bool (rvalidB n1 xs n2 ys)) ∧ Keeps w w' := by
 obtain ⟨A1, m1, c1, A2, m2, c2, rfl⟩ := h.open_
 have S := ((((St.start w).addA h.a1).addA h.a2).alloc 31 [.bool n1, .slice A1 m1 c1, .bool n2, .slice A2 m2 c2])
 have HV := Lib.hid (rfl : rvalidB n1 xs n2 ys = rvalidB n1 xs n2 ys)
 clear HV
 obtain ⟨vb, hvb⟩ : ∃ vb, rvalidB n1 xs n2 ys = vb := ⟨_, rfl⟩
 rw [hvb]
 unfold rvalidB at hvb
 have HB := Lib.hid hvb
 clear hvb
 go_enter Tryz.func41, Tryz.ntmps41
 go_wp2_with fail
 generalize w.alloc (.cells #[.bool n1, .slice A1 m1 c1, .bool n2, .slice A2 m2 c2] 31) = W at *
 refine (valid_num n1 xs _ _ (S.ai 1 rfl) (by omega)).mono ?_
 rintro e W1 ⟨rfl, hk⟩
 replace S := S.below hk
 clear hk h
 cases hv1 : validB n1 xs with
 | false =>
  have HV := Lib.hid (show vb = false by rw [← HB.out, hv1]; rfl)
  clear hv1
  go_wp2
  go_ret
  exact ⟨by rw [HV.out]; rfl, S.k⟩
 | true =>
  obtain ⟨r0, r1, r2, r3⟩ := S.cc4 0 rfl
  have H1 := Lib.hid hv1
  clear hv1
  go_wp2_with fail
  refine (valid_num n2 ys _ _ (S.ai 0 rfl) (by omega)).mono ?_
  rintro e W2 ⟨rfl, hk⟩
  replace S := S.below hk
  clear hk r0 r1 r2 r3
  cases hv2 : validB n2 ys with
  | false =>
   have HV := Lib.hid (show vb = false by rw [← HB.out, H1.out, hv2]; rfl)
   clear hv2
   go_wp2
   go_ret
   exact ⟨by rw [HV.out]; rfl, S.k⟩
  | true =>
   obtain ⟨r0, r1, r2, r3⟩ := S.cc4 0 rfl
   have H2 := Lib.hid hv2
   clear hv2
   have N1 := (S.ai 1 rfl).nn (by omega)
   have N2 := (S.ai 0 rfl).nn (by omega)
   replace S := (S.addN N1).addN N2
   clear N1 N2
   rw [H1.out, H2.out] at HB
   have lx := lenI_cnt n1 xs
   have ly := lenI_cnt n2 ys
   generalize cnt n1 xs = a at *
   generalize cnt n2 ys = b at *
   have HB2 := Lib.hid (show (decide (0 < b) && decide (Int.gcd a b = 1)) = vb by simpa using HB.out)
   clear HB
   go_wp2_with fail
   rcases Int.lt_trichotomy b 0 with hb | hb | hb
   ·refine (sign_s (S.ni 0 rfl) (Int.sign_eq_neg_one_of_neg hb)).mono ?_
    rintro e W3 ⟨rfl, hk⟩
    replace S := S.below hk
    have HV := Lib.hid (show vb = false by rw [← HB2.out, decide_eq_false (by omega)]; rfl)
    clear hk r0 r1 r2 r3 hb
    go_wp2
    go_ret
    exact ⟨by rw [HV.out]; rfl, S.k⟩
   ·refine (sign_s (S.ni 0 rfl) (by rw [hb]; rfl : b.sign = 0)).mono ?_
    rintro e W3 ⟨rfl, hk⟩
    replace S := S.below hk
    have HV := Lib.hid (show vb = false by rw [← HB2.out, decide_eq_false (by omega)]; rfl)
    clear hk r0 r1 r2 r3 hb
    go_wp2
    go_ret
    exact ⟨by rw [HV.out]; rfl, S.k⟩
   ·refine (sign_s (S.ni 0 rfl) (Int.sign_eq_one_of_pos hb)).mono ?_
    rintro e W3 ⟨rfl, hk⟩
    replace S := S.below hk
    have HB3 := Lib.hid (show decide (Int.gcd a b = 1) = vb by rw [← HB2.out, decide_eq_true hb]; rfl)
    have hgl := lenI_gcd (a := a) hb
    clear hk r0 r1 r2 r3 hb HB2
    obtain ⟨r0, r1, r2, r3⟩ := S.cc4 0 rfl
    go_wp2_with fail
    refine (gcd_num (S.ni 1 rfl) (S.ni 0 rfl)).mono ?_
    rintro e W4 ⟨U1, rfl, hp, hk⟩
    replace S := (S.below hk).addN (hp.num (by omega))
    clear hk hp
    go_wp2_with fail
    refine (of_num 1 (by omega) (by omega)).mono ?_
    rintro e W5 ⟨U2, rfl, hp, hk⟩
    replace S := (S.below hk).addN (hp.num (by have := lenI_one; omega))
    clear hk hp r0 r1 r2 r3
    go_wp2_with fail
    by_cases hg : Int.gcd a b = 1
    ·refine (icompare_s (S.ni 1 rfl) (S.ni 0 rfl) (by rw [hg]; rfl : ((Int.gcd a b : Nat) - 1 : Int).sign = 0)).mono ?_
     rintro e W6 ⟨rfl, hk⟩
     replace S := S.below hk
     have HV := Lib.hid (show vb = true by rw [← HB3.out]; exact decide_eq_true hg)
     clear hk hg
     go_wp2
     go_ret
     exact ⟨by rw [HV.out]; rfl, S.k⟩
    ·obtain ⟨s, hs⟩ : ∃ s, ((Int.gcd a b : Nat) - 1 : Int).sign = s := ⟨_, rfl⟩
     have hs0 : s ≠ 0 := by
      intro e
      rw [← hs, Int.sign_eq_zero_iff_zero] at e
      omega
     have hsb : (s == 0) = false := by simpa using hs0
     refine (icompare_s (S.ni 1 rfl) (S.ni 0 rfl) hs).mono ?_
     rintro e W6 ⟨rfl, hk⟩
     replace S := S.below hk
     have HV := Lib.hid (show vb = false by rw [← HB3.out]; exact decide_eq_false hg)
     clear hk hg hs hs0
     go_wp2
     go_ret
     exact ⟨by rw [HV.out]; rfl, S.k⟩

set_option maxRecDepth 100000 in
set_option maxHeartbeats 1000000 in
theorem copied_any {w : World} {V : Value} {n1 n2 : Bool} {xs ys : List Nat} (h : RatArg w V n1 xs n2 ys) (l1 : xs.length ≤ 100000) (l2 : ys.length ≤ 100000) (hv : rvalidB n1 xs n2 ys = true) :
 Calls Tryz.prog 135 #[V] w (RGives (rcnt n1 xs n2 ys) w) := by
 obtain ⟨A1, m1, c1, A2, m2, c2, rfl⟩ := h.open_
 obtain ⟨e1, e2⟩ := rcnt_true hv
 have lx := lenI_cnt n1 xs
 have ly := lenI_cnt n2 ys
 have S := (((((St.start w).addN (h.a1.nn (by omega))).addN (h.a2.nn (by omega))).alloc 31 [.bool n1, .slice A1 m1 c1, .bool n2, .slice A2 m2 c2])).alloc 31 [.bool false, .slice none 0 0, .bool false, .slice none 0 0]
 simp only [World.size_alloc] at S
 have E1 := Lib.hid e1.symm
 have E2 := Lib.hid e2.symm
 generalize rcnt n1 xs n2 ys = q at *
 generalize cnt n1 xs = a at *
 generalize cnt n2 ys = b at *
 have la := lenI_neg a
 have lb := lenI_neg b
 clear e1 e2 h hv
 go_enter Tryz.func135, Tryz.ntmps135
 go_wp2_with fail
 generalize (w.alloc (.cells #[.bool n1, .slice A1 m1 c1, .bool n2, .slice A2 m2 c2] 31)).alloc (.cells #[.bool false, .slice none 0 0, .bool false, .slice none 0 0] 31) = W at *
 refine wp_region_steps (m := 8) rfl (by kernel_rfl) (fun iF vF wF => (List.getD [fun vF _ => vF = .pointer (some ⟨w.heap.size, 0, none⟩), fun vF _ => vF = .agg #[.bool n1, .slice A1 m1 c1], fun vF wF => IntRep wF vF (-a), fun vF wF => IntRep wF vF (a), fun vF _ => vF = .pointer (some ⟨w.heap.size, 2, none⟩), fun vF _ => vF = .agg #[.bool n2, .slice A2 m2 c2], fun vF wF => IntRep wF vF (-b), fun vF wF => IntRep wF vF (b)] iF (fun _ _ => True)) vF wF) [] ?_ ?_ ?_
 ·intro i v w w' hi h hk
  rcases (show i = 0 ∨ i = 1 ∨ i = 2 ∨ i = 3 ∨ i = 4 ∨ i = 5 ∨ i = 6 ∨ i = 7 by omega) with rfl | rfl | rfl | rfl | rfl | rfl | rfl | rfl
  all_goals simp only [gz, gs] at h ⊢
  all_goals first | exact h | exact IntRep.below h hk | exact RatRep.below h hk
 ·intro i hi vs w3 hk3 hd
  have S3 := S.drew.below hk3
  obtain ⟨a0, a1, a2, a3⟩ := S3.cc4 1 rfl
  match i, hi with
  | 0, _ =>
   refine step_yes [] rfl (by kernel_rfl) fun K hK => ?_; simp only [frD] at hK ⊢; refine ⟨by rfl, ?_⟩; go_simp
   exact hK _ _ ⟨Below.refl _ _, rfl, by simp⟩
  | 1, _ =>
   have e0 := hd 0 (cm (by kernel_rfl)); simp only [gz] at e0
   refine step_yes [(0, some 3)] rfl (by kernel_rfl) fun K hK => ?_; simp only [frD, e0] at hK ⊢; refine ⟨by rfl, ?_⟩; go_simp
   exact hK _ _ ⟨Below.refl _ _, rfl, by simp⟩
  | 2, _ =>
   have e1 := hd 1 (cm (by kernel_rfl)); simp only [gz, gs] at e1
   refine step_yes [(1, some 4)] rfl (by kernel_rfl) fun K hK => ?_; simp only [frD, e1] at hK ⊢; refine ⟨by rfl, ?_⟩; go_simp
   refine (neg_num (S3.ni 1 rfl)).mono ?_; rintro e w4 ⟨U, rfl, hr, hk4⟩; exact hK _ _ ⟨hk4, hr, by simp⟩
  | 3, _ =>
   have h2 := hd 2 (cm (by kernel_rfl)); simp only [gz, gs] at h2
   refine step_yes [(2, some 5)] rfl (by kernel_rfl) fun K hK => ?_; simp only [frD] at hK ⊢; refine ⟨by rfl, ?_⟩; go_simp
   refine (gives_eq (neg_num (h2.num (by omega))) (Int.neg_neg a)).mono ?_; rintro e w4 ⟨U, rfl, hr, hk4⟩; exact hK _ _ ⟨hk4, hr, by simp⟩
  | 4, _ =>
   refine step_yes [] rfl (by kernel_rfl) fun K hK => ?_; simp only [frD] at hK ⊢; refine ⟨by rfl, ?_⟩; go_simp
   exact hK _ _ ⟨Below.refl _ _, rfl, by simp⟩
  | 5, _ =>
   have e4 := hd 4 (cm (by kernel_rfl)); simp only [gz, gs] at e4
   refine step_yes [(4, some 7)] rfl (by kernel_rfl) fun K hK => ?_; simp only [frD, e4] at hK ⊢; refine ⟨by rfl, ?_⟩; go_simp
   exact hK _ _ ⟨Below.refl _ _, rfl, by simp⟩
  | 6, _ =>
   have h3 := hd 3 (cm (by kernel_rfl)); simp only [gz, gs] at h3; have e5 := hd 5 (cm (by kernel_rfl)); simp only [gz, gs] at e5
   refine step_yes [(3, some 6), (5, some 8)] rfl (by kernel_rfl) fun K hK => ?_; simp only [frD, e5] at hK ⊢; refine ⟨by rfl, ?_⟩; go_simp
   refine (neg_num (S3.ni 0 rfl)).mono ?_; rintro e w4 ⟨U, rfl, hr, hk4⟩; exact hK _ _ ⟨hk4, hr, by simp⟩
  | 7, _ =>
   have h6 := hd 6 (cm (by kernel_rfl)); simp only [gz, gs] at h6
   refine step_yes [(6, some 9)] rfl (by kernel_rfl) fun K hK => ?_; simp only [frD] at hK ⊢; refine ⟨by rfl, ?_⟩; go_simp
   refine (gives_eq (neg_num (h6.num (by omega))) (Int.neg_neg b)).mono ?_; rintro e w4 ⟨U, rfl, hr, hk4⟩; exact hK _ _ ⟨hk4, hr, by simp⟩
  | i + 8, hi => exact absurd hi (by omega)
 ·intro vs wph hk3 hΦ _
  simp only [List.drop_succ_cons, List.drop_zero]
  rw [fr_frD, show (List.range 8).map _ = [(0, some 3), (1, some 4), (2, some 5), (3, some 6), (4, some 7), (5, some 8), (6, some 9), (7, some 10)] by kernel_rfl]
  have ph0 := hΦ 0 (by omega); simp only [gz] at ph0
  have ph1 := hΦ 1 (by omega); simp only [gz, gs] at ph1
  have ph2 := hΦ 2 (by omega); simp only [gz, gs] at ph2
  have ph3 := hΦ 3 (by omega); simp only [gz, gs] at ph3
  have ph4 := hΦ 4 (by omega); simp only [gz, gs] at ph4
  have ph5 := hΦ 5 (by omega); simp only [gz, gs] at ph5
  have ph6 := hΦ 6 (by omega); simp only [gz, gs] at ph6
  have ph7 := hΦ 7 (by omega); simp only [gz, gs] at ph7
  clear hΦ
  simp only [frD, ph0, ph1, ph4, ph5]
  simp only [Act.put, List.setIfInBounds_toArray, List.set_cons_zero, List.set_cons_succ]
  clear ph0 ph1 ph4 ph5
  generalize vs 2 = U2 at ph2 ⊢
  generalize vs 3 = U3 at ph3 ⊢
  generalize vs 6 = U6 at ph6 ⊢
  generalize vs 7 = U7 at ph7 ⊢
  replace S := S.drew.below hk3
  obtain ⟨b3, A3, n3, c3, rfl⟩ := ph3.open3
  obtain ⟨b4, A4, n4, c4, rfl⟩ := ph7.open3
  replace S := (S.addI ph3).addI ph7
  clear ph2 ph3 ph6 ph7 hk3
  obtain ⟨r0_0, r0_1, r0_2, r0_3⟩ := S.cc4 0 rfl
  obtain ⟨f0_0, f0_1, f0_2, f0_3⟩ := S.ff4 0 rfl
  go_wp2
  replace S := S.put4 0 rfl rfl rfl (x' := .bool b3) (y' := .slice A3 n3 c3) (z' := .bool b4) (u' := .slice A4 n4 c4)
  refine bodyPost_ret (v := .agg #[.bool b3, .slice A3 n3 c3, .bool b4, .slice A4 n4 c4]) (by simp [results, Tryz.results135, go_sem, S.c 0 0 rfl rfl, S.c 0 1 rfl rfl, S.c 0 2 rfl rfl, S.c 0 3 rfl rfl]) rfl ?_
  exact ⟨_, rfl, RatRep.mk (S.ii 1 rfl) (S.ii 0 rfl) E1.out E2.out, S.k⟩

set_option maxRecDepth 100000 in
set_option maxHeartbeats 1000000 in
theorem whole_num {w : World} (z : Int) (h1 : -9223372036854775808 ≤ z) (h2 : z ≤ 9223372036854775807) : Calls Tryz.prog 42 #[.int .i64 z] w (RGives (z : Rat) w) := by
 have S := (St.start w).alloc 31 [.bool false, .slice none 0 0, .bool false, .slice none 0 0]
 go_enter Tryz.func42, Tryz.ntmps42
 go_wp2_with fail
 generalize w.alloc (.cells #[.bool false, .slice none 0 0, .bool false, .slice none 0 0] 31) = W at *
 refine (of_num z h1 h2).mono ?_
 rintro e W1 ⟨U1, rfl, hp, hk⟩
 obtain ⟨b3, A3, n3, c3, rfl⟩ := hp.open3
 replace S := (S.below hk).addI hp
 clear hk hp
 go_wp2_with fail
 refine (of_num 1 (by omega) (by omega)).mono ?_
 rintro e W2 ⟨U2, rfl, hp, hk⟩
 obtain ⟨b4, A4, n4, c4, rfl⟩ := hp.open3
 replace S := (S.below hk).addI hp
 clear hk hp
 obtain ⟨r0_0, r0_1, r0_2, r0_3⟩ := S.cc4 0 rfl
 obtain ⟨f0_0, f0_1, f0_2, f0_3⟩ := S.ff4 0 rfl
 go_wp2
 replace S := S.put4 0 rfl rfl rfl (x' := .bool b3) (y' := .slice A3 n3 c3) (z' := .bool b4) (u' := .slice A4 n4 c4)
 refine bodyPost_ret (v := .agg #[.bool b3, .slice A3 n3 c3, .bool b4, .slice A4 n4 c4]) (by simp [results, Tryz.results42, go_sem, S.c 0 0 rfl rfl, S.c 0 1 rfl rfl, S.c 0 2 rfl rfl, S.c 0 3 rfl rfl]) rfl ?_
 exact ⟨_, rfl, RatRep.whole (S.ii 1 rfl) (S.ii 0 rfl), S.k⟩

set_option maxRecDepth 100000 in
set_option maxHeartbeats 1000000 in
theorem fvalue_num {w : World} {V : Value} {q : Rat} (h : RatNum w V q) : Calls Tryz.prog 92 #[V] w (RGives q w) := by
 obtain ⟨n1, xs, n2, ys, h, rfl, l1, l2⟩ := h
 obtain ⟨A1, m1, c1, A2, m2, c2, rfl⟩ := h.open_
 have S := ((St.start w).alloc 31 [.bool n1, .slice A1 m1 c1, .bool n2, .slice A2 m2 c2]).alloc 31 [.bool false, .slice none 0 0, .bool false, .slice none 0 0]
 simp only [World.size_alloc] at S
 have HA := Lib.hid h
 clear h
 go_enter Tryz.func92, Tryz.ntmps92
 go_wp2_with fail
 generalize (w.alloc (.cells #[.bool n1, .slice A1 m1 c1, .bool n2, .slice A2 m2 c2] 31)).alloc (.cells #[.bool false, .slice none 0 0, .bool false, .slice none 0 0] 31) = W at *
 refine (fvalid_any (HA.out.below S.k) l1 l2).mono ?_
 rintro e W1 ⟨rfl, hk⟩
 replace S := S.below hk
 clear hk
 cases hv : rvalidB n1 xs n2 ys with
 | true =>
  have HV := Lib.hid hv
  clear hv
  obtain ⟨r1_0, r1_1, r1_2, r1_3⟩ := S.cc4 1 rfl
  go_wp2_with fail
  refine (copied_any (HA.out.below S.k) l1 l2 HV.out).mono ?_
  rintro e W2 ⟨U, rfl, hp, hk⟩
  obtain ⟨b3, A3, n3, c3, b4, A4, n4, c4, rfl⟩ := hp.open_
  replace S := (S.below hk).addQ hp
  clear hk hp r1_0 r1_1 r1_2 r1_3
  obtain ⟨r0_0, r0_1, r0_2, r0_3⟩ := S.cc4 0 rfl
  obtain ⟨f0_0, f0_1, f0_2, f0_3⟩ := S.ff4 0 rfl
  go_wp2
  replace S := S.put4 0 rfl rfl rfl (x' := .bool b3) (y' := .slice A3 n3 c3) (z' := .bool b4) (u' := .slice A4 n4 c4)
  refine bodyPost_ret (v := .agg #[.bool b3, .slice A3 n3 c3, .bool b4, .slice A4 n4 c4]) (by simp [results, Tryz.results92, go_sem, S.c 0 0 rfl rfl, S.c 0 1 rfl rfl, S.c 0 2 rfl rfl, S.c 0 3 rfl rfl]) rfl ?_
  exact ⟨_, rfl, S.qi 0 rfl, S.k⟩
 | false =>
  have HZ := Lib.hid (rcnt_false hv)
  clear hv
  go_wp2_with fail
  refine (whole_num 0 (by omega) (by omega)).mono ?_
  rintro e W2 ⟨U, rfl, hp, hk⟩
  obtain ⟨b3, A3, n3, c3, b4, A4, n4, c4, rfl⟩ := hp.open_
  replace S := (S.below hk).addQ hp
  clear hk hp
  obtain ⟨r0_0, r0_1, r0_2, r0_3⟩ := S.cc4 0 rfl
  obtain ⟨f0_0, f0_1, f0_2, f0_3⟩ := S.ff4 0 rfl
  go_wp2
  replace S := S.put4 0 rfl rfl rfl (x' := .bool b3) (y' := .slice A3 n3 c3) (z' := .bool b4) (u' := .slice A4 n4 c4)
  refine bodyPost_ret (v := .agg #[.bool b3, .slice A3 n3 c3, .bool b4, .slice A4 n4 c4]) (by simp [results, Tryz.results92, go_sem, S.c 0 0 rfl rfl, S.c 0 1 rfl rfl, S.c 0 2 rfl rfl, S.c 0 3 rfl rfl]) rfl ?_
  exact ⟨_, rfl, by rw [HZ.out]; exact S.qi 0 rfl, S.k⟩
end Go.Proofs.YtgcigdahjabimaaGreatDoor
