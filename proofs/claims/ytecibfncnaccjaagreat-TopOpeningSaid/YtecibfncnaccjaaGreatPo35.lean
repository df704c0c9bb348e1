/- The walks of fiducialref02.whole, Valid, Whole, Value. The walks of fiducialref02.reduced, New, Of. The walks of fiducialref02.New, Of. -/
import Derived.Test.YtecibfncnaccjaaGreatPo33
import Derived.Test.YtecibfncnaccjaaGreatPo34
namespace Go.Proofs.YtecibfncnaccjaaGreat
open Go.RowKit Go.Shelf

theorem rvalid_num (neg : Bool) (xs : List Nat) (V : Value) (w : World) (h : IntArg w V neg xs) (hm : xs.length ≤ 900000) : Calls Tryz.prog 111 #[V] w fun e w' => e = .returned (.bool (validB neg xs)) ∧ Keeps w w' := by
 obtain ⟨v, rfl, hv⟩ := h
 obtain ⟨A, n, c, rfl, e, -, -, -, hr⟩ := hv.open_
 exact rvalid_any neg A n c xs w e hr (by omega)
set_option maxRecDepth 100000 in
set_option maxHeartbeats 1000000 in
theorem whole_int {w : World} (z : Int) (h1 : -9223372036854775808 ≤ z) (h2 : z ≤ 9223372036854775807) : Calls Tryz.prog 47 #[.int .i64 z] w (Gives z w) := by
 have S := (St.start w).alloc 33 [.bool false, .slice none 0 0]
 go_enter Tryz.func47, Tryz.ntmps47
 go_wp2_with fail
 generalize w.alloc (.cells #[.bool false, .slice none 0 0] 33) = W at *
 refine (rof_num z h1 h2).mono ?_
 rintro e W1 ⟨U1, rfl, hp, hk⟩
 obtain ⟨b3, A3, n3, c3, rfl⟩ := hp.open3
 replace S := (S.below hk).addI hp
 clear hk hp
 obtain ⟨r0_0, r0_1⟩ := S.cc2 0 rfl
 obtain ⟨f0_0, f0_1⟩ := S.ff2 0 rfl
 go_wp2
 replace S := S.put2 0 rfl rfl rfl (x' := .bool b3) (y' := .slice A3 n3 c3)
 refine bodyPost_ret (v := .agg #[.bool b3, .slice A3 n3 c3]) (by simp [results, Tryz.results47, go_sem, S.c 0 0 rfl rfl, S.c 0 1 rfl rfl]) rfl ?_
 exact ⟨_, rfl, S.ii 0 rfl, S.k⟩
set_option maxRecDepth 100000 in
set_option maxHeartbeats 1000000 in
theorem gvalid_any {w : World} {V : Value} {n1 n2 : Bool} {xs ys : List Nat} (h : RatArg w V n1 xs n2 ys) (l1 : xs.length ≤ 100000) (l2 : ys.length ≤ 100000) :
 Calls Tryz.prog 80 #[V] w fun e w' => e = .returned (.bool (rvalidB n1 xs n2 ys)) ∧ Keeps w w' := by
 obtain ⟨A1, m1, c1, A2, m2, c2, rfl⟩ := h.open_
 have S := ((((St.start w).addA h.a1).addA h.a2).alloc 35 [.bool n1, .slice A1 m1 c1, .bool n2, .slice A2 m2 c2])
 have HV := Lib.hid (rfl : rvalidB n1 xs n2 ys = rvalidB n1 xs n2 ys)
 clear HV
 obtain ⟨vb, hvb⟩ : ∃ vb, rvalidB n1 xs n2 ys = vb := ⟨_, rfl⟩
 rw [hvb]
 unfold rvalidB at hvb
 have HB := Lib.hid hvb
 clear hvb
 go_enter Tryz.func80, Tryz.ntmps80
 go_wp2_with fail
 generalize w.alloc (.cells #[.bool n1, .slice A1 m1 c1, .bool n2, .slice A2 m2 c2] 35) = W at *
 refine (rvalid_num n1 xs _ _ (S.ai 1 rfl) (by omega)).mono ?_
 rintro e W1 ⟨rfl, hk⟩
 replace S := S.below hk
 clear hk h
 cases hv1 : validB n1 xs with
 | false =>
  have HV := Lib.hid (show vb = false by rw [← HB.out, hv1]; rfl)
  clear hv1
  go_wp2
  go_ret
  exact ⟨by rw [HV.out]; rfl, S.k⟩
 | true =>
  obtain ⟨r0, r1, r2, r3⟩ := S.cc4 0 rfl
  have H1 := Lib.hid hv1
  clear hv1
  go_wp2_with fail
  refine (rvalid_num n2 ys _ _ (S.ai 0 rfl) (by omega)).mono ?_
  rintro e W2 ⟨rfl, hk⟩
  replace S := S.below hk
  clear hk r0 r1 r2 r3
  cases hv2 : validB n2 ys with
  | false =>
   have HV := Lib.hid (show vb = false by rw [← HB.out, H1.out, hv2]; rfl)
   clear hv2
   go_wp2
   go_ret
   exact ⟨by rw [HV.out]; rfl, S.k⟩
  | true =>
   obtain ⟨r0, r1, r2, r3⟩ := S.cc4 0 rfl
   have H2 := Lib.hid hv2
   clear hv2
   have N1 := (S.ai 1 rfl).nn (by omega)
   have N2 := (S.ai 0 rfl).nn (by omega)
   replace S := (S.addN N1).addN N2
   clear N1 N2
   rw [H1.out, H2.out] at HB
   have lx := lenI_cnt n1 xs
   have ly := lenI_cnt n2 ys
   generalize cnt n1 xs = a at *
   generalize cnt n2 ys = b at *
   have HB2 := Lib.hid (show (decide (0 < b) && decide (Int.gcd a b = 1)) = vb by simpa using HB.out)
   clear HB
   go_wp2_with fail
   rcases Int.lt_trichotomy b 0 with hb | hb | hb
   ·refine (rsign_s (S.ni 0 rfl) (Int.sign_eq_neg_one_of_neg hb)).mono ?_
    rintro e W3 ⟨rfl, hk⟩
    replace S := S.below hk
    have HV := Lib.hid (show vb = false by rw [← HB2.out, decide_eq_false (by omega)]; rfl)
    clear hk r0 r1 r2 r3 hb
    go_wp2
    go_ret
    exact ⟨by rw [HV.out]; rfl, S.k⟩
   ·refine (rsign_s (S.ni 0 rfl) (by rw [hb]; rfl : b.sign = 0)).mono ?_
    rintro e W3 ⟨rfl, hk⟩
    replace S := S.below hk
    have HV := Lib.hid (show vb = false by rw [← HB2.out, decide_eq_false (by omega)]; rfl)
    clear hk r0 r1 r2 r3 hb
    go_wp2
    go_ret
    exact ⟨by rw [HV.out]; rfl, S.k⟩
   ·refine (rsign_s (S.ni 0 rfl) (Int.sign_eq_one_of_pos hb)).mono ?_
    rintro e W3 ⟨rfl, hk⟩
    replace S := S.below hk
    have HB3 := Lib.hid (show decide (Int.gcd a b = 1) = vb by rw [← HB2.out, decide_eq_true hb]; rfl)
    have hgl := lenI_gcd (a := a) hb
    clear hk r0 r1 r2 r3 hb HB2
    obtain ⟨r0, r1, r2, r3⟩ := S.cc4 0 rfl
    go_wp2_with fail
    refine (rgcd_num (S.ni 1 rfl) (S.ni 0 rfl)).mono ?_
    rintro e W4 ⟨U1, rfl, hp, hk⟩
    replace S := (S.below hk).addN (hp.num (by omega))
    clear hk hp
    go_wp2_with fail
    refine (whole_int 1 (by omega) (by omega)).mono ?_
    rintro e W5 ⟨U2, rfl, hp, hk⟩
    replace S := (S.below hk).addN (hp.num (by have := lenI_one; omega))
    clear hk hp r0 r1 r2 r3
    go_wp2_with fail
    by_cases hg : Int.gcd a b = 1
    ·refine (rcompare_s (S.ni 1 rfl) (S.ni 0 rfl) (by rw [hg]; rfl : ((Int.gcd a b : Nat) - 1 : Int).sign = 0)).mono ?_
     rintro e W6 ⟨rfl, hk⟩
     replace S := S.below hk
     have HV := Lib.hid (show vb = true by rw [← HB3.out]; exact decide_eq_true hg)
     clear hk hg
     go_wp2
     go_ret
     exact ⟨by rw [HV.out]; rfl, S.k⟩
    ·obtain ⟨s, hs⟩ : ∃ s, ((Int.gcd a b : Nat) - 1 : Int).sign = s := ⟨_, rfl⟩
     have hs0 : s ≠ 0 := by
      intro e
      rw [← hs, Int.sign_eq_zero_iff_zero] at e
      omega
     have hsb : (s == 0) = false := by simpa using hs0
     refine (rcompare_s (S.ni 1 rfl) (S.ni 0 rfl) hs).mono ?_
     rintro e W6 ⟨rfl, hk⟩
     replace S := S.below hk
     have HV := Lib.hid (show vb = false by rw [← HB3.out]; exact decide_eq_false hg)
     clear hk hg hs hs0
     go_wp2
     go_ret
     exact ⟨by rw [HV.out]; rfl, S.k⟩
set_option maxRecDepth 100000 in
set_option maxHeartbeats 1000000 in
theorem gwhole_num {w : World} (z : Int) (h1 : -9223372036854775808 ≤ z) (h2 : z ≤ 9223372036854775807) : Calls Tryz.prog 45 #[.int .i64 z] w (RGives (z : Rat) w) := by
 have S := (St.start w).alloc 35 [.bool false, .slice none 0 0, .bool false, .slice none 0 0]
 go_enter Tryz.func45, Tryz.ntmps45
 go_wp2_with fail
 generalize w.alloc (.cells #[.bool false, .slice none 0 0, .bool false, .slice none 0 0] 35) = W at *
 refine (whole_int z h1 h2).mono ?_
 rintro e W1 ⟨U1, rfl, hp, hk⟩
 obtain ⟨b3, A3, n3, c3, rfl⟩ := hp.open3
 replace S := (S.below hk).addI hp
 clear hk hp
 go_wp2_with fail
 refine (whole_int 1 (by omega) (by omega)).mono ?_
 rintro e W2 ⟨U2, rfl, hp, hk⟩
 obtain ⟨b4, A4, n4, c4, rfl⟩ := hp.open3
 replace S := (S.below hk).addI hp
 clear hk hp
 obtain ⟨r0_0, r0_1, r0_2, r0_3⟩ := S.cc4 0 rfl
 obtain ⟨f0_0, f0_1, f0_2, f0_3⟩ := S.ff4 0 rfl
 go_wp2
 replace S := S.put4 0 rfl rfl rfl (x' := .bool b3) (y' := .slice A3 n3 c3) (z' := .bool b4) (u' := .slice A4 n4 c4)
 refine bodyPost_ret (v := .agg #[.bool b3, .slice A3 n3 c3, .bool b4, .slice A4 n4 c4]) (by simp [results, Tryz.results45, go_sem, S.c 0 0 rfl rfl, S.c 0 1 rfl rfl, S.c 0 2 rfl rfl, S.c 0 3 rfl rfl]) rfl ?_
 exact ⟨_, rfl, RatRep.whole (S.ii 1 rfl) (S.ii 0 rfl), S.k⟩

theorem RatArg.rep {w : World} {V : Value} {n1 n2 : Bool} {xs ys : List Nat} (h : RatArg w V n1 xs n2 ys) (hv : rvalidB n1 xs n2 ys = true) : RatRep w V (rcnt n1 xs n2 ys) := by
 obtain ⟨e1, e2⟩ := rcnt_true hv
 unfold rvalidB at hv
 simp only [Bool.and_eq_true] at hv
 obtain ⟨x, v, y, u, rfl, h1, h2⟩ := h
 exact RatRep.mk (h1.rep hv.1) (h2.rep hv.2.1) e1.symm e2.symm
set_option maxRecDepth 100000 in
set_option maxHeartbeats 1000000 in
theorem gvalue_num {w : World} {V : Value} {q : Rat} (h : RatNum w V q) : Calls Tryz.prog 49 #[V] w (RGives q w) := by
 obtain ⟨n1, xs, n2, ys, h, rfl, l1, l2⟩ := h
 obtain ⟨A1, m1, c1, A2, m2, c2, rfl⟩ := h.open_
 have S := ((St.start w).alloc 35 [.bool n1, .slice A1 m1 c1, .bool n2, .slice A2 m2 c2]).alloc 35 [.bool false, .slice none 0 0, .bool false, .slice none 0 0]
 simp only [World.size_alloc] at S
 have HA := Lib.hid h
 clear h
 go_enter Tryz.func49, Tryz.ntmps49
 go_wp2_with fail
 generalize (w.alloc (.cells #[.bool n1, .slice A1 m1 c1, .bool n2, .slice A2 m2 c2] 35)).alloc (.cells #[.bool false, .slice none 0 0, .bool false, .slice none 0 0] 35) = W at *
 refine (gvalid_any (HA.out.below S.k) l1 l2).mono ?_
 rintro e W1 ⟨rfl, hk⟩
 replace S := S.below hk
 clear hk
 cases hv : rvalidB n1 xs n2 ys with
 | true =>
  replace S := S.addQ ((HA.out.below S.k).rep hv)
  clear hv HA
  obtain ⟨r1_0, r1_1, r1_2, r1_3⟩ := S.cc4 1 rfl
  obtain ⟨r0_0, r0_1, r0_2, r0_3⟩ := S.cc4 0 rfl
  obtain ⟨f0_0, f0_1, f0_2, f0_3⟩ := S.ff4 0 rfl
  go_wp2
  replace S := S.put4 0 rfl rfl rfl (x' := .bool n1) (y' := .slice A1 m1 c1) (z' := .bool n2) (u' := .slice A2 m2 c2)
  refine bodyPost_ret (v := .agg #[.bool n1, .slice A1 m1 c1, .bool n2, .slice A2 m2 c2]) (by simp [results, Tryz.results49, go_sem, S.c 0 0 rfl rfl, S.c 0 1 rfl rfl, S.c 0 2 rfl rfl, S.c 0 3 rfl rfl]) rfl ?_
  exact ⟨_, rfl, S.qi 0 rfl, S.k⟩
 | false =>
  have HZ := Lib.hid (rcnt_false hv)
  clear hv HA
  go_wp2_with fail
  refine (gwhole_num 0 (by omega) (by omega)).mono ?_
  rintro e W2 ⟨U, rfl, hp, hk⟩
  obtain ⟨b3, A3, n3, c3, b4, A4, n4, c4, rfl⟩ := hp.open_
  replace S := (S.below hk).addQ hp
  clear hk hp
  obtain ⟨r0_0, r0_1, r0_2, r0_3⟩ := S.cc4 0 rfl
  obtain ⟨f0_0, f0_1, f0_2, f0_3⟩ := S.ff4 0 rfl
  go_wp2
  replace S := S.put4 0 rfl rfl rfl (x' := .bool b3) (y' := .slice A3 n3 c3) (z' := .bool b4) (u' := .slice A4 n4 c4)
  refine bodyPost_ret (v := .agg #[.bool b3, .slice A3 n3 c3, .bool b4, .slice A4 n4 c4]) (by simp [results, Tryz.results49, go_sem, S.c 0 0 rfl rfl, S.c 0 1 rfl rfl, S.c 0 2 rfl rfl, S.c 0 3 rfl rfl]) rfl ?_
  exact ⟨_, rfl, by rw [HZ.out]; exact S.qi 0 rfl, S.k⟩
section
variable {w0 w w' : World} {bs : List Bx} {ps : List (World → Prop)}
theorem IntNum4.map {V : Value} {z : Int} (h : IntNum4 w V z) (hs : Same32 w w') : IntNum4 w' V z := by
 obtain ⟨neg, xs, h, e, l⟩ := h
 exact ⟨neg, xs, h.map hs, e, l⟩
theorem IntNum4.below {V : Value} {z : Int} (h : IntNum4 w V z) (hk : Keeps w w') : IntNum4 w' V z := h.map hk.same32
theorem IntNum4.num {V : Value} {z : Int} (h : IntNum4 w V z) : IntNum w V z := by
 obtain ⟨neg, xs, h, e, l⟩ := h
 exact ⟨neg, xs, h, e, by omega⟩
theorem IntNum4.len {V : Value} {z : Int} (h : IntNum4 w V z) : lenI z ≤ 400000 := by
 obtain ⟨n, xs, -, rfl, l⟩ := h
 have := lenI_cnt n xs
 omega
theorem IntRep.num4 {V : Value} {z : Int} (h : IntRep w V z) (hl : lenI z ≤ 400000) : IntNum4 w V z := ⟨_, _, h.arg, cnt_rep z, hl⟩
theorem St.addM (S : St w0 w bs ps) {V : Value} {z : Int} (h : IntNum4 w V z) : St w0 w bs ((fun w => IntNum4 w V z) :: ps) := S.add (fun _ _ hs h => h.map hs) h
theorem St.mi (S : St w0 w bs ps) (i : Nat) {V : Value} {z : Int} (h : ps[i]? = some (fun w => IntNum4 w V z)) : IntNum4 w V z := S.p.get h
end
theorem gcd_ne' {a b : Int} (h : b ≠ 0) : ((Int.gcd a b : Nat) : Int) ≠ 0 := by
 have := Int.gcd_pos_of_ne_zero_right a h
 omega
theorem lenI_gcd' {a b : Int} (h : b ≠ 0) : lenI (Int.gcd a b : Nat) ≤ lenI b := by
 have := Int.gcd_le_natAbs_right (a := a) (b := b) h
 exact lenR_mono (by omega)
set_option maxRecDepth 100000 in
set_option maxHeartbeats 2000000 in
theorem greduced_num {w : World} {V1 V2 : Value} {a b : Int} (h1 : IntNum4 w V1 a) (h2 : IntNum4 w V2 b) (hb : b ≠ 0) : Calls Tryz.prog 50 #[V1, V2] w (RGives (Rat.divInt a b) w) := by
 have lb := h2.len
 obtain ⟨b1, A1, n1, c1, rfl⟩ := h1.num.open_
 obtain ⟨b2, A2, n2, c2, rfl⟩ := h2.num.open_
 have S := (((St.start w).alloc 33 [.bool b1, .slice A1 n1 c1]).alloc 33 [.bool b2, .slice A2 n2 c2]).alloc 35 [.bool false, .slice none 0 0, .bool false, .slice none 0 0]
 simp only [World.size_alloc] at S
 have hg0 := gcd_ne' (a := a) hb
 have lg := lenI_gcd' (a := a) hb
 have lg2 := lenI_neg (Int.gcd a b : Nat)
 have HGG := Lib.hid hg0
 clear hg0
 go_enter Tryz.func50, Tryz.ntmps50
 go_wp2_with fail
 generalize ((w.alloc (.cells #[.bool b1, .slice A1 n1 c1] 33)).alloc (.cells #[.bool b2, .slice A2 n2 c2] 33)).alloc (.cells #[.bool false, .slice none 0 0, .bool false, .slice none 0 0] 35) = W at *
 refine (rgcd_num (h1.num.below S.k) (h2.num.below S.k)).mono ?_
 rintro e W2 ⟨U, rfl, hg, hk⟩
 obtain ⟨bg, Ag, ng, cg, rfl⟩ := hg.open3
 have lt2 : w.heap.size + 1 + 1 < W2.heap.size := ((S.below hk).o 0 rfl).lt
 replace S := ((S.below hk).addM (hg.num4 (by omega))).alloc 33 [.bool bg, .slice Ag ng cg]
 clear hk hg
 go_upto_region 2 with fail
 generalize hB : W2.heap.size = B at *
 generalize hW : W2.alloc (.cells #[.bool bg, .slice Ag ng cg] 33) = W3 at *
 clear hW hB
 obtain ⟨r2_0, r2_1⟩ := S.cc2 2 rfl
 go_wp2_with fail
 rcases Int.lt_or_gt_of_ne hb with hb0 | hb0
 ·have HE1 := Lib.hid (red_ref (a := a) hb0).1
  have HE2 := Lib.hid (red_ref (a := a) hb0).2
  have HG0 := Lib.hid (show -((Int.gcd a b : Nat) : Int) ≠ 0 by have := HGG.out; omega)
  refine (rsign_s (h2.num.below S.k) (Int.sign_eq_neg_one_of_neg hb0)).mono ?_
  clear hb hb0
  rintro e W4 ⟨rfl, hk⟩
  replace S := S.below hk
  clear hk r2_0 r2_1
  obtain ⟨r0_0, r0_1⟩ := S.cc2 0 rfl
  go_wp2_with fail
  refine (rneg_num (S.mi 0 rfl).num).mono ?_
  rintro e W5 ⟨U, rfl, hg, hk⟩
  obtain ⟨bh, Ah, nh, ch, rfl⟩ := hg.open3
  replace S := (S.below hk).addM (hg.num4 (by omega))
  clear hk hg r0_0 r0_1
  obtain ⟨r0_0, r0_1⟩ := S.cc2 0 rfl
  obtain ⟨f0_0, f0_1⟩ := S.ff2 0 rfl
  go_upto_region 4 with fail
  replace S := S.put2 0 rfl rfl rfl (x' := .bool bh) (y' := .slice Ah nh ch)
  generalize (W5.setCell ⟨B, 0, none⟩ (.bool bh)).setCell ⟨B, 1, none⟩ (.slice Ah nh ch) = W6 at S ⊢
  clear r0_0 r0_1 f0_0 f0_1
  obtain ⟨r3_0, r3_1⟩ := S.cc2 3 rfl
  obtain ⟨r0_0, r0_1⟩ := S.cc2 0 rfl
  go_wp2_with fail
  refine (rdivide_num (h1.below S.k) (S.mi 0 rfl) HG0.out HE1.out).mono ?_
  rintro e W5 ⟨Q, R, rfl, hq, hr, hk⟩
  obtain ⟨bq, Aq, nq, cq, rfl⟩ := hq.open3
  obtain ⟨br, Ar, nr, cr, rfl⟩ := hr.open3
  replace S := (((S.below hk).addI hq).alloc 33 [.bool bq, .slice Aq nq cq]).alloc 33 [.bool br, .slice Ar nr cr]
  simp only [World.size_alloc] at S
  clear hk hq hr r3_0 r3_1 r0_0 r0_1
  go_upto_region 5 with fail
  generalize hB2 : W5.heap.size = B2 at *
  generalize hW : (W5.alloc (.cells #[.bool bq, .slice Aq nq cq] 33)).alloc (.cells #[.bool br, .slice Ar nr cr] 33) = W6 at *
  clear hB2 hW
  obtain ⟨r4_0, r4_1⟩ := S.cc2 4 rfl
  obtain ⟨r2_0, r2_1⟩ := S.cc2 2 rfl
  go_wp2_with fail
  refine (rdivide_num (h2.below S.k) (S.mi 1 rfl) HG0.out HE2.out).mono ?_
  rintro e W7 ⟨Q, R, rfl, hq, hr, hk⟩
  obtain ⟨bd, Ad, nd, cd, rfl⟩ := hq.open3
  obtain ⟨be, Ae, ne, ce, rfl⟩ := hr.open3
  replace S := (((S.below hk).addI hq).alloc 33 [.bool bd, .slice Ad nd cd]).alloc 33 [.bool be, .slice Ae ne ce]
  simp only [World.size_alloc] at S
  clear hk hq hr r4_0 r4_1 r2_0 r2_1
  go_upto_region 6 with fail
  generalize hB3 : W7.heap.size = B3 at *
  generalize hW : (W7.alloc (.cells #[.bool bd, .slice Ad nd cd] 33)).alloc (.cells #[.bool be, .slice Ae ne ce] 33) = W8 at *
  clear hB3 hW h1 h2
  obtain ⟨r3_0, r3_1⟩ := S.cc2 3 rfl
  obtain ⟨r1_0, r1_1⟩ := S.cc2 1 rfl
  obtain ⟨r5_0, r5_1, r5_2, r5_3⟩ := S.cc4 5 rfl
  obtain ⟨f5_0, f5_1, f5_2, f5_3⟩ := S.ff4 5 rfl
  go_wp2
  replace S := S.put4 5 rfl rfl rfl (x' := .bool bq) (y' := .slice Aq nq cq) (z' := .bool bd) (u' := .slice Ad nd cd)
  refine bodyPost_ret (v := .agg #[.bool bq, .slice Aq nq cq, .bool bd, .slice Ad nd cd]) (by simp [results, Tryz.results50, go_sem, S.c 5 0 rfl rfl, S.c 5 1 rfl rfl, S.c 5 2 rfl rfl, S.c 5 3 rfl rfl]) rfl ?_
  exact ⟨_, rfl, RatRep.mk (S.ii 1 rfl) (S.ii 0 rfl) rfl rfl, S.k⟩
 ·have HE1 := Lib.hid (red_pos (a := a) hb0).1
  have HE2 := Lib.hid (red_pos (a := a) hb0).2
  have HG0 := Lib.hid HGG.out
  refine (rsign_s (h2.num.below S.k) (Int.sign_eq_one_of_pos hb0)).mono ?_
  clear hb hb0
  rintro e W4 ⟨rfl, hk⟩
  replace S := S.below hk
  clear hk r2_0 r2_1
  obtain ⟨r3_0, r3_1⟩ := S.cc2 3 rfl
  obtain ⟨r0_0, r0_1⟩ := S.cc2 0 rfl
  go_wp2_with fail
  refine (rdivide_num (h1.below S.k) (S.mi 0 rfl) HG0.out HE1.out).mono ?_
  rintro e W5 ⟨Q, R, rfl, hq, hr, hk⟩
  obtain ⟨bq, Aq, nq, cq, rfl⟩ := hq.open3
  obtain ⟨br, Ar, nr, cr, rfl⟩ := hr.open3
  replace S := (((S.below hk).addI hq).alloc 33 [.bool bq, .slice Aq nq cq]).alloc 33 [.bool br, .slice Ar nr cr]
  simp only [World.size_alloc] at S
  clear hk hq hr r3_0 r3_1 r0_0 r0_1
  go_upto_region 5 with fail
  generalize hB2 : W5.heap.size = B2 at *
  generalize hW : (W5.alloc (.cells #[.bool bq, .slice Aq nq cq] 33)).alloc (.cells #[.bool br, .slice Ar nr cr] 33) = W6 at *
  clear hB2 hW
  obtain ⟨r4_0, r4_1⟩ := S.cc2 4 rfl
  obtain ⟨r2_0, r2_1⟩ := S.cc2 2 rfl
  go_wp2_with fail
  refine (rdivide_num (h2.below S.k) (S.mi 1 rfl) HG0.out HE2.out).mono ?_
  rintro e W7 ⟨Q, R, rfl, hq, hr, hk⟩
  obtain ⟨bd, Ad, nd, cd, rfl⟩ := hq.open3
  obtain ⟨be, Ae, ne, ce, rfl⟩ := hr.open3
  replace S := (((S.below hk).addI hq).alloc 33 [.bool bd, .slice Ad nd cd]).alloc 33 [.bool be, .slice Ae ne ce]
  simp only [World.size_alloc] at S
  clear hk hq hr r4_0 r4_1 r2_0 r2_1
  go_upto_region 6 with fail
  generalize hB3 : W7.heap.size = B3 at *
  generalize hW : (W7.alloc (.cells #[.bool bd, .slice Ad nd cd] 33)).alloc (.cells #[.bool be, .slice Ae ne ce] 33) = W8 at *
  clear hB3 hW h1 h2
  obtain ⟨r3_0, r3_1⟩ := S.cc2 3 rfl
  obtain ⟨r1_0, r1_1⟩ := S.cc2 1 rfl
  obtain ⟨r5_0, r5_1, r5_2, r5_3⟩ := S.cc4 5 rfl
  obtain ⟨f5_0, f5_1, f5_2, f5_3⟩ := S.ff4 5 rfl
  go_wp2
  replace S := S.put4 5 rfl rfl rfl (x' := .bool bq) (y' := .slice Aq nq cq) (z' := .bool bd) (u' := .slice Ad nd cd)
  refine bodyPost_ret (v := .agg #[.bool bq, .slice Aq nq cq, .bool bd, .slice Ad nd cd]) (by simp [results, Tryz.results50, go_sem, S.c 5 0 rfl rfl, S.c 5 1 rfl rfl, S.c 5 2 rfl rfl, S.c 5 3 rfl rfl]) rfl ?_
  exact ⟨_, rfl, RatRep.mk (S.ii 1 rfl) (S.ii 0 rfl) rfl rfl, S.k⟩
end Go.Proofs.YtecibfncnaccjaaGreat
