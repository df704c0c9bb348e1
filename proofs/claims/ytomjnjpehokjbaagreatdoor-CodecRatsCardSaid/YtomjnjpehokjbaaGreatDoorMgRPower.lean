/- The walk of the reference's Power. The walk of the reference's Log. The walk of the reference's Root. The walks of fiducialref02.whole, Valid, Whole, Value. Fractions as values; codec.OfRat and the reference's: the walks. -/
import Derived.Test.YtomjnjpehokjbaaGreatDoorMgPowNum
import Derived.Test.YtomjnjpehokjbaaGreatDoorMgIntA
import Derived.Test.YtomjnjpehokjbaaGreatDoorMgOf
import Derived.Test.YtomjnjpehokjbaaGreatDoorMgDet
import Derived.Test.YtomjnjpehokjbaaGreatDoorRDivide
import Derived.Test.YtomjnjpehokjbaaGreatDoorMgRegion
import Derived.Test.YtomjnjpehokjbaaGreatDoorMgNumsG
namespace Go.Proofs.YtomjnjpehokjbaaGreatDoor
open Go.RowKit Go.Shelf

theorem lenI_pow (z : Int) (i n : Nat) (hi : i ≤ n) (h : n * dgs z.natAbs ≤ 20000) : lenI (z ^ i) ≤ 2300 := by
  unfold lenI
  rw [Int.natAbs_pow]
  exact pow_len _ i n hi h
/-- a box that is written over -/
theorem IntRep.rebox {w : World} {B : Nat} {t : TypeId} {x y : Value} {b : Bool} {A : Option Addr} {n c : Nat} {z : Int} (h : IntRep w (.agg #[.bool b, .slice A n c]) z) (hB : Own w B t [x, y]) (hx : noU32 x = true) (hy : noU32 y = true) :
    IntRep ((w.setCell ⟨B, 0, none⟩ (.bool b)).setCell ⟨B, 1, none⟩ (.slice A n c)) (.agg #[.bool b, .slice A n c]) z := h.two hB hx hy rfl

theorem IntNum.two {w : World} {V : Value} {z : Int} {R : Nat} {t : TypeId} {x y x' y' : Value} (h : IntNum w V z) (hR : Own w R t [x, y]) (hx : noU32 x = true) (hy : noU32 y = true) (hx' : noU32 x' = true) :
    IntNum ((w.setCell ⟨R, 0, none⟩ x').setCell ⟨R, 1, none⟩ y') V z := by
  obtain ⟨neg, xs, ⟨v, rfl, hv⟩, e, l⟩ := h
  exact ⟨neg, xs, ⟨v, rfl, hv.two hR hx hy hx'⟩, e, l⟩
end Go.Proofs.YtomjnjpehokjbaaGreatDoor

namespace Go.Proofs.YtomjnjpehokjbaaGreatDoor
open Go.RowKit Go.Shelf

end Go.Proofs.YtomjnjpehokjbaaGreatDoor

namespace Go.Proofs.YtomjnjpehokjbaaGreatDoor
open Go.RowKit Go.Shelf

theorem dgs_two : dgs 2 = 1 := by
  unfold dgs
  rw [if_neg (by omega), Lib.nDigits_small (by omega)]
/-- a power of two above the root -/
theorem start_high (z : Int) (hz : 0 ≤ z) (L : Int) (hL : log2 z.natAbs = L) (h : 0 < L) : z < 2 ^ (L / 2 + 1).toNat * 2 ^ (L / 2 + 1).toNat := by
  obtain ⟨m, rfl⟩ := Int.eq_ofNat_of_zero_le hz
  have hm : m ≠ 0 := by intro e; subst e; simp [log2] at hL; omega
  rw [show ((m : Int)).natAbs = m from rfl, log2_pos hm] at hL
  have h2 := Nat.lt_log2_self (n := m)
  obtain ⟨k, rfl⟩ := Int.eq_ofNat_of_zero_le (show 0 ≤ L by omega)
  have hk : Nat.log2 m = k := by omega
  rw [hk] at h2
  rw [← Int.pow_add]
  have h3 : m < 2 ^ ((k : Int) / 2 + 1).toNat * 2 ^ ((k : Int) / 2 + 1).toNat := by
    rw [← Nat.pow_add]
    exact Nat.lt_of_lt_of_le h2 (Nat.pow_le_pow_right (by omega) (by omega))
  rw [← Nat.pow_add] at h3
  exact_mod_cast h3

theorem rcompare_s {w : World} {V1 V2 : Value} {x y s : Int} (h1 : IntNum w V1 x) (h2 : IntNum w V2 y) (e : (x - y).sign = s) : Calls Tryz.prog 73 #[V1, V2] w fun e w' => e = .returned (.int .i64 s) ∧ Keeps w w' := by subst e; exact rcompare_num h1 h2
theorem rdivide_two {w : World} {V1 V2 : Value} {y : Int} (h1 : IntRep w V1 y) (h2 : IntRep w V2 2) (hl : lenI y ≤ 300000) :
    Calls Tryz.prog 154 #[V1, V2] w fun e w' => ∃ Q R, e = .returned (.tuple #[Q, R, .int .i64 0]) ∧ IntRep w' Q (y.fdiv 2) ∧ IntRep w' R (y.fmod 2) ∧ Keeps w w' := by
  have hl2 : (dig (2 : Int).natAbs).length ≤ 1 := dig_length_le (by decide)
  unfold lenI at hl
  have := rdivide_any _ _ _ _ V1 V2 w h1.arg h2.arg (by omega) (by omega)
  rwa [cnt_rep, cnt_rep] at this
theorem sign_pos_iff (x : Int) : (0 < x ∧ x.sign = 1) ∨ (x ≤ 0 ∧ x.sign ≤ 0) := by
  rcases Int.lt_trichotomy x 0 with h | h | h
  · exact .inr ⟨by omega, by rw [Int.sign_eq_neg_one_of_neg h]; omega⟩
  · exact .inr ⟨by omega, by rw [h]; simp⟩
  · exact .inl ⟨h, Int.sign_eq_one_of_pos h⟩
theorem lenI_lt {x y : Int} (h0 : 0 ≤ x) (h : x ≤ y) : lenI x ≤ lenI y := dig_length_mono (by omega)

def rr4Φ (z : Int) (Vx : Value) (k : Nat) : Nat → Value → World → Prop
  | 0, v, w => IntRep w v (0)
  | 1, v, _ => v = Vx
  | 2, v, w => IntRep w v (1)
  | 3, v, w => IntRep w v (z + 1)
  | 4, v, w => ∃ b, v = .pointer (some ⟨b, 0, none⟩) ∧ k ≤ b ∧ Own w b 27 [.bool false, .slice none 0 0]
  | 5, v, w => ∃ b, v = .pointer (some ⟨b, 0, none⟩) ∧ k ≤ b ∧ Own w b 27 [.bool false, .slice none 0 0]
  | _, _, _ => True
/-- behind the region that makes the power of two -/
def PowCut (W wx : World) (t : TypeId) (P : Int) (p : Value) : Prop := ∃ d9 bp Ap np cp, p = .pointer (some ⟨d9, 0, none⟩) ∧ W.heap.size ≤ d9 ∧ Own wx d9 t [.bool bp, .slice Ap np cp] ∧ IntRep wx (.agg #[.bool bp, .slice Ap np cp]) P ∧
  (∀ b vs, b < W.heap.size → Own W b t vs → Own wx b t vs) ∧ Same32 W wx ∧ (∀ w0 : World, w0.heap.size ≤ W.heap.size → Keeps w0 W → Keeps w0 wx)
theorem PowCut.new {W w3 : World} {t : TypeId} {P : Int} {bp : Bool} {Ap : Option Addr} {np cp : Nat} (hk : Keeps W w3) (hq : IntRep w3 (.agg #[.bool bp, .slice Ap np cp]) P) :
    PowCut W (w3.alloc (.cells #[.bool bp, .slice Ap np cp] t)) t P (.pointer (some ⟨w3.heap.size, 0, none⟩)) :=
  ⟨w3.heap.size, bp, Ap, np, cp, rfl, hk.size, Own.new w3 t [.bool bp, .slice Ap np cp], hq.below (box2 _ _), fun _ _ _ h => (h.below hk).alloc _, fun _ _ h => (h.below hk).below (box2 _ _), fun _ _ h => (h.trans' hk).trans' (box2 _ _)⟩
theorem PowCut.of {W w3 : World} {t : TypeId} {P : Int} {d9 : Nat} {bp : Bool} {Ap : Option Addr} {np cp : Nat} (hk : Keeps W w3) (hd : W.heap.size ≤ d9) (hO : Own w3 d9 t [.bool false, .slice none 0 0]) (hq : IntRep w3 (.agg #[.bool bp, .slice Ap np cp]) P) :
    PowCut W ((w3.setCell ⟨d9, 0, none⟩ (.bool bp)).setCell ⟨d9, 1, none⟩ (.slice Ap np cp)) t P (.pointer (some ⟨d9, 0, none⟩)) :=
  ⟨d9, bp, Ap, np, cp, rfl, hd, hO.two _ _, hq.two hO rfl rfl rfl, fun b vs hb h => (h.below hk).far2 (by omega), fun v xs h => (h.below hk).two hO rfl rfl rfl, fun w0 hs h => ((h.trans' hk).set (p := ⟨d9, 0, none⟩) (by simp only; omega) _).set (p := ⟨d9, 1, none⟩) (by simp only; omega) _⟩
end Go.Proofs.YtomjnjpehokjbaaGreatDoor

namespace Go.Proofs.YtomjnjpehokjbaaGreatDoor
open Go.RowKit Go.Shelf

theorem rvalid_num (neg : Bool) (xs : List Nat) (V : Value) (w : World) (h : IntArg w V neg xs) (hm : xs.length ≤ 900000) : Calls Tryz.prog 71 #[V] w fun e w' => e = .returned (.bool (validB neg xs)) ∧ Keeps w w' := by
  obtain ⟨v, rfl, hv⟩ := h
  obtain ⟨A, n, c, rfl, e, -, -, -, hr⟩ := hv.open_
  exact rvalid_any neg A n c xs w e hr (by omega)
set_option maxRecDepth 100000 in
set_option maxHeartbeats 1000000 in
theorem whole_int {w : World} (z : Int) (h1 : -9223372036854775808 ≤ z) (h2 : z ≤ 9223372036854775807) : Calls Tryz.prog 82 #[.int .i64 z] w (Gives z w) := by
  have S := (St.start w).alloc 27 [.bool false, .slice none 0 0]
  go_enter Tryz.func82, Tryz.ntmps82
  go_wp2_with fail
  generalize w.alloc (.cells #[.bool false, .slice none 0 0] 27) = W at *
  refine (rof_num z h1 h2).mono ?_
  rintro e W1 ⟨U1, rfl, hp, hk⟩
  obtain ⟨b3, A3, n3, c3, rfl⟩ := hp.open3
  replace S := (S.below hk).addI hp
  clear hk hp
  have r0_0 := S.c 0 0 rfl rfl
  have r0_1 := S.c 0 1 rfl rfl
  have f0_0 := S.f 0 0 rfl
  have f0_1 := S.f 0 1 rfl
  go_wp2
  replace S := S.put2 0 rfl rfl rfl (x' := .bool b3) (y' := .slice A3 n3 c3)
  refine bodyPost_ret (v := .agg #[.bool b3, .slice A3 n3 c3]) (by simp [results, Tryz.results82, go_sem, S.c 0 0 rfl rfl, S.c 0 1 rfl rfl]) rfl ?_
  exact ⟨_, rfl, S.ii 0 rfl, S.k⟩
set_option maxRecDepth 100000 in
set_option maxHeartbeats 1000000 in
theorem gvalid_any {w : World} {V : Value} {n1 n2 : Bool} {xs ys : List Nat} (h : RatArg w V n1 xs n2 ys) (l1 : xs.length ≤ 100000) (l2 : ys.length ≤ 100000) :
    Calls Tryz.prog 45 #[V] w fun e w' => e = .returned (.bool (rvalidB n1 xs n2 ys)) ∧ Keeps w w' := by
  obtain ⟨A1, m1, c1, A2, m2, c2, rfl⟩ := h.open_
  have S := ((((St.start w).addA h.a1).addA h.a2).alloc 44 [.bool n1, .slice A1 m1 c1, .bool n2, .slice A2 m2 c2])
  have HV := Lib.hid (rfl : rvalidB n1 xs n2 ys = rvalidB n1 xs n2 ys)
  clear HV
  obtain ⟨vb, hvb⟩ : ∃ vb, rvalidB n1 xs n2 ys = vb := ⟨_, rfl⟩
  rw [hvb]
  unfold rvalidB at hvb
  have HB := Lib.hid hvb
  clear hvb
  go_enter Tryz.func45, Tryz.ntmps45
  go_wp2_with fail
  generalize w.alloc (.cells #[.bool n1, .slice A1 m1 c1, .bool n2, .slice A2 m2 c2] 44) = W at *
  refine (rvalid_num n1 xs _ _ (S.ai 1 rfl) (by omega)).mono ?_
  rintro e W1 ⟨rfl, hk⟩
  replace S := S.below hk
  clear hk h
  cases hv1 : validB n1 xs with
  | false =>
    have HV := Lib.hid (show vb = false by rw [← HB.out, hv1]; rfl)
    clear hv1
    go_wp2
    go_ret
    exact ⟨by rw [HV.out]; rfl, S.k⟩
  | true =>
    have r0 := S.c 0 0 rfl rfl
    have r1 := S.c 0 1 rfl rfl
    have r2 := S.c 0 2 rfl rfl
    have r3 := S.c 0 3 rfl rfl
    have H1 := Lib.hid hv1
    clear hv1
    go_wp2_with fail
    refine (rvalid_num n2 ys _ _ (S.ai 0 rfl) (by omega)).mono ?_
    rintro e W2 ⟨rfl, hk⟩
    replace S := S.below hk
    clear hk r0 r1 r2 r3
    cases hv2 : validB n2 ys with
    | false =>
      have HV := Lib.hid (show vb = false by rw [← HB.out, H1.out, hv2]; rfl)
      clear hv2
      go_wp2
      go_ret
      exact ⟨by rw [HV.out]; rfl, S.k⟩
    | true =>
      have r0 := S.c 0 0 rfl rfl
      have r1 := S.c 0 1 rfl rfl
      have r2 := S.c 0 2 rfl rfl
      have r3 := S.c 0 3 rfl rfl
      have H2 := Lib.hid hv2
      clear hv2
      have N1 := (S.ai 1 rfl).nn (by omega)
      have N2 := (S.ai 0 rfl).nn (by omega)
      replace S := (S.addN N1).addN N2
      clear N1 N2
      rw [H1.out, H2.out] at HB
      have lx := lenI_cnt n1 xs
      have ly := lenI_cnt n2 ys
      generalize cnt n1 xs = a at *
      generalize cnt n2 ys = b at *
      have HB2 := Lib.hid (show (decide (0 < b) && decide (Int.gcd a b = 1)) = vb by simpa using HB.out)
      clear HB
      go_wp2_with fail
      rcases Int.lt_trichotomy b 0 with hb | hb | hb
      · refine (rsign_s (S.ni 0 rfl) (Int.sign_eq_neg_one_of_neg hb)).mono ?_
        rintro e W3 ⟨rfl, hk⟩
        replace S := S.below hk
        have HV := Lib.hid (show vb = false by rw [← HB2.out, decide_eq_false (by omega)]; rfl)
        clear hk r0 r1 r2 r3 hb
        go_wp2
        go_ret
        exact ⟨by rw [HV.out]; rfl, S.k⟩
      · refine (rsign_s (S.ni 0 rfl) (by rw [hb]; rfl : b.sign = 0)).mono ?_
        rintro e W3 ⟨rfl, hk⟩
        replace S := S.below hk
        have HV := Lib.hid (show vb = false by rw [← HB2.out, decide_eq_false (by omega)]; rfl)
        clear hk r0 r1 r2 r3 hb
        go_wp2
        go_ret
        exact ⟨by rw [HV.out]; rfl, S.k⟩
      · refine (rsign_s (S.ni 0 rfl) (Int.sign_eq_one_of_pos hb)).mono ?_
        rintro e W3 ⟨rfl, hk⟩
        replace S := S.below hk
        have HB3 := Lib.hid (show decide (Int.gcd a b = 1) = vb by rw [← HB2.out, decide_eq_true hb]; rfl)
        have hgl := lenI_gcd (a := a) hb
        clear hk r0 r1 r2 r3 hb HB2
        have r0 := S.c 0 0 rfl rfl
        have r1 := S.c 0 1 rfl rfl
        have r2 := S.c 0 2 rfl rfl
        have r3 := S.c 0 3 rfl rfl
        go_wp2_with fail
        refine (rgcd_num (S.ni 1 rfl) (S.ni 0 rfl)).mono ?_
        rintro e W4 ⟨U1, rfl, hp, hk⟩
        replace S := (S.below hk).addN (hp.num (by omega))
        clear hk hp
        go_wp2_with fail
        refine (whole_int 1 (by omega) (by omega)).mono ?_
        rintro e W5 ⟨U2, rfl, hp, hk⟩
        replace S := (S.below hk).addN (hp.num (by have := lenI_one; omega))
        clear hk hp r0 r1 r2 r3
        go_wp2_with fail
        by_cases hg : Int.gcd a b = 1
        · refine (rcompare_s (S.ni 1 rfl) (S.ni 0 rfl) (by rw [hg]; rfl : ((Int.gcd a b : Nat) - 1 : Int).sign = 0)).mono ?_
          rintro e W6 ⟨rfl, hk⟩
          replace S := S.below hk
          have HV := Lib.hid (show vb = true by rw [← HB3.out]; exact decide_eq_true hg)
          clear hk hg
          go_wp2
          go_ret
          exact ⟨by rw [HV.out]; rfl, S.k⟩
        · obtain ⟨s, hs⟩ : ∃ s, ((Int.gcd a b : Nat) - 1 : Int).sign = s := ⟨_, rfl⟩
          have hs0 : s ≠ 0 := by
            intro e
            rw [← hs, Int.sign_eq_zero_iff_zero] at e
            omega
          have hsb : (s == 0) = false := by simpa using hs0
          refine (rcompare_s (S.ni 1 rfl) (S.ni 0 rfl) hs).mono ?_
          rintro e W6 ⟨rfl, hk⟩
          replace S := S.below hk
          have HV := Lib.hid (show vb = false by rw [← HB3.out]; exact decide_eq_false hg)
          clear hk hg hs hs0
          go_wp2
          go_ret
          exact ⟨by rw [HV.out]; rfl, S.k⟩
set_option maxRecDepth 100000 in
set_option maxHeartbeats 1000000 in
theorem gwhole_num {w : World} (z : Int) (h1 : -9223372036854775808 ≤ z) (h2 : z ≤ 9223372036854775807) : Calls Tryz.prog 47 #[.int .i64 z] w (RGives (z : Rat) w) := by
  have S := (St.start w).alloc 44 [.bool false, .slice none 0 0, .bool false, .slice none 0 0]
  go_enter Tryz.func47, Tryz.ntmps47
  go_wp2_with fail
  generalize w.alloc (.cells #[.bool false, .slice none 0 0, .bool false, .slice none 0 0] 44) = W at *
  refine (whole_int z h1 h2).mono ?_
  rintro e W1 ⟨U1, rfl, hp, hk⟩
  obtain ⟨b3, A3, n3, c3, rfl⟩ := hp.open3
  replace S := (S.below hk).addI hp
  clear hk hp
  go_wp2_with fail
  refine (whole_int 1 (by omega) (by omega)).mono ?_
  rintro e W2 ⟨U2, rfl, hp, hk⟩
  obtain ⟨b4, A4, n4, c4, rfl⟩ := hp.open3
  replace S := (S.below hk).addI hp
  clear hk hp
  have r0_0 := S.c 0 0 rfl rfl
  have r0_1 := S.c 0 1 rfl rfl
  have r0_2 := S.c 0 2 rfl rfl
  have r0_3 := S.c 0 3 rfl rfl
  have f0_0 := S.f 0 0 rfl
  have f0_1 := S.f 0 1 rfl
  have f0_2 := S.f 0 2 rfl
  have f0_3 := S.f 0 3 rfl
  go_wp2
  replace S := S.put4 0 rfl rfl rfl (x' := .bool b3) (y' := .slice A3 n3 c3) (z' := .bool b4) (u' := .slice A4 n4 c4)
  refine bodyPost_ret (v := .agg #[.bool b3, .slice A3 n3 c3, .bool b4, .slice A4 n4 c4]) (by simp [results, Tryz.results47, go_sem, S.c 0 0 rfl rfl, S.c 0 1 rfl rfl, S.c 0 2 rfl rfl, S.c 0 3 rfl rfl]) rfl ?_
  exact ⟨_, rfl, RatRep.whole (S.ii 1 rfl) (S.ii 0 rfl), S.k⟩

theorem RatArg.rep {w : World} {V : Value} {n1 n2 : Bool} {xs ys : List Nat} (h : RatArg w V n1 xs n2 ys) (hv : rvalidB n1 xs n2 ys = true) : RatRep w V (rcnt n1 xs n2 ys) := by
  obtain ⟨e1, e2⟩ := rcnt_true hv
  unfold rvalidB at hv
  simp only [Bool.and_eq_true] at hv
  obtain ⟨x, v, y, u, rfl, h1, h2⟩ := h
  exact RatRep.mk (h1.rep hv.1) (h2.rep hv.2.1) e1.symm e2.symm
set_option maxRecDepth 100000 in
set_option maxHeartbeats 1000000 in
theorem gvalue_num {w : World} {V : Value} {q : Rat} (h : RatNum w V q) : Calls Tryz.prog 21 #[V] w (RGives q w) := by
  obtain ⟨n1, xs, n2, ys, h, rfl, l1, l2⟩ := h
  obtain ⟨A1, m1, c1, A2, m2, c2, rfl⟩ := h.open_
  have S := ((St.start w).alloc 44 [.bool n1, .slice A1 m1 c1, .bool n2, .slice A2 m2 c2]).alloc 44 [.bool false, .slice none 0 0, .bool false, .slice none 0 0]
  simp only [World.size_alloc] at S
  have HA := Lib.hid h
  clear h
  go_enter Tryz.func21, Tryz.ntmps21
  go_wp2_with fail
  generalize (w.alloc (.cells #[.bool n1, .slice A1 m1 c1, .bool n2, .slice A2 m2 c2] 44)).alloc (.cells #[.bool false, .slice none 0 0, .bool false, .slice none 0 0] 44) = W at *
  refine (gvalid_any (HA.out.below S.k) l1 l2).mono ?_
  rintro e W1 ⟨rfl, hk⟩
  replace S := S.below hk
  clear hk
  cases hv : rvalidB n1 xs n2 ys with
  | true =>
    replace S := S.addQ ((HA.out.below S.k).rep hv)
    clear hv HA
    have r1_0 := S.c 1 0 rfl rfl
    have r1_1 := S.c 1 1 rfl rfl
    have r1_2 := S.c 1 2 rfl rfl
    have r1_3 := S.c 1 3 rfl rfl
    have r0_0 := S.c 0 0 rfl rfl
    have r0_1 := S.c 0 1 rfl rfl
    have r0_2 := S.c 0 2 rfl rfl
    have r0_3 := S.c 0 3 rfl rfl
    have f0_0 := S.f 0 0 rfl
    have f0_1 := S.f 0 1 rfl
    have f0_2 := S.f 0 2 rfl
    have f0_3 := S.f 0 3 rfl
    go_wp2
    replace S := S.put4 0 rfl rfl rfl (x' := .bool n1) (y' := .slice A1 m1 c1) (z' := .bool n2) (u' := .slice A2 m2 c2)
    refine bodyPost_ret (v := .agg #[.bool n1, .slice A1 m1 c1, .bool n2, .slice A2 m2 c2]) (by simp [results, Tryz.results21, go_sem, S.c 0 0 rfl rfl, S.c 0 1 rfl rfl, S.c 0 2 rfl rfl, S.c 0 3 rfl rfl]) rfl ?_
    exact ⟨_, rfl, S.qi 0 rfl, S.k⟩
  | false =>
    have HZ := Lib.hid (rcnt_false hv)
    clear hv HA
    go_wp2_with fail
    refine (gwhole_num 0 (by omega) (by omega)).mono ?_
    rintro e W2 ⟨U, rfl, hp, hk⟩
    obtain ⟨b3, A3, n3, c3, b4, A4, n4, c4, rfl⟩ := hp.open_
    replace S := (S.below hk).addQ hp
    clear hk hp
    have r0_0 := S.c 0 0 rfl rfl
    have r0_1 := S.c 0 1 rfl rfl
    have r0_2 := S.c 0 2 rfl rfl
    have r0_3 := S.c 0 3 rfl rfl
    have f0_0 := S.f 0 0 rfl
    have f0_1 := S.f 0 1 rfl
    have f0_2 := S.f 0 2 rfl
    have f0_3 := S.f 0 3 rfl
    go_wp2
    replace S := S.put4 0 rfl rfl rfl (x' := .bool b3) (y' := .slice A3 n3 c3) (z' := .bool b4) (u' := .slice A4 n4 c4)
    refine bodyPost_ret (v := .agg #[.bool b3, .slice A3 n3 c3, .bool b4, .slice A4 n4 c4]) (by simp [results, Tryz.results21, go_sem, S.c 0 0 rfl rfl, S.c 0 1 rfl rfl, S.c 0 2 rfl rfl, S.c 0 3 rfl rfl]) rfl ?_
    exact ⟨_, rfl, by rw [HZ.out]; exact S.qi 0 rfl, S.k⟩
end Go.Proofs.YtomjnjpehokjbaaGreatDoor

namespace Go.Proofs.YtomjnjpehokjbaaGreatDoor
open Go.RowKit Go.Shelf
def ratT (q : Rat) : Tr := lstT [intT q.num, intT (q.den : Int)]
theorem ratT_val {W : World} {g : Nat} {q : Rat} {b d : Bool} {A B : Option Addr} {n c m e : Nat}
    (hg : W.heap[g]? = some (.cells #[.int .i64 0, .bool b, .slice A n c, .slice none 0 0, .slice none 0 0, .int .i64 0, .bool d, .slice B m e, .slice none 0 0, .slice none 0 0] 30 (0, 0)))
    (h : RatRep W (.agg #[.bool b, .slice A n c, .bool d, .slice B m e]) q) (hs : szR q ≤ 60000) :
    ValC (fun k => k = g) 70000 W (ratT q) [.int .i64 2, .bool false, .slice none 0 0, .slice none 0 0, .slice (some ⟨g, 0, none⟩) 2 2] := by
  have h1 := h.n
  have h2 := h.d
  have s1 : (dig q.num.natAbs).length ≤ 60000 := szR_num hs
  have s2 : (dig (q.den : Int).natAbs).length ≤ 60000 := szR_den hs
  obtain ⟨v1, e1, -⟩ := id h1
  obtain ⟨v2, e2, -⟩ := id h2
  simp only [Value.agg.injEq, Array.mk.injEq, List.cons.injEq, Value.bool.injEq, and_true] at e1 e2
  obtain ⟨rfl, rfl⟩ := e1
  obtain ⟨rfl, rfl⟩ := e2
  have hlt : g < W.heap.size := (Array.getElem?_eq_some_iff.1 hg).1
  have hc := fun i => cell_of_row W g i _ _ _ hg
  refine ValC.make (l := [intT q.num, intT (q.den : Int)]) ⟨by simp, by simp, by simp⟩ U32.nil SlK.nil ⟨by simp, by simp [maxLen], fun e => by cases e⟩ (fun j x hj => ?_)
  match j, hj with
  | 0, hj =>
    cases hj
    exact ⟨_, 0, _, _, _, _, _, rfl, rfl, hlt, ⟨hc 0, hc 1, hc 2, hc 3, hc 4⟩, (valC_int h1 (by omega)).mono (fun _ h _ => h.elim)⟩
  | 1, hj =>
    cases hj
    exact ⟨_, 0, _, _, _, _, _, rfl, rfl, hlt, ⟨hc 5, hc 6, hc 7, hc 8, hc 9⟩, (valC_int h2 (by omega)).mono (fun _ h _ => h.elim)⟩
set_option maxRecDepth 100000 in
set_option maxHeartbeats 4000000 in
theorem rofRat_any {w : World} {V : Value} {q : Rat} (h : RatNum w V q) (hs : szR q ≤ 60000) : Calls Tryz.prog 19 #[V] w (GivesV (ratT q) w) := by
  obtain ⟨b, A, n, c, d, B, m, e, rfl⟩ := h.open_
  obtain ⟨W1, hW1⟩ : ∃ W1, (w.alloc (.cells #[.bool b, .slice A n c, .bool d, .slice B m e] 44)).alloc (.cells #[.int .i64 0, .bool false, .slice none 0 0, .slice none 0 0, .slice none 0 0] 30) = W1 := ⟨_, rfl⟩
  have hk1 : Keeps w W1 := hW1 ▸ keep2 w _ _
  have p1 : Own W1 w.heap.size 44 [.bool b, .slice A n c, .bool d, .slice B m e] := hW1 ▸ (Own.new w _ _).alloc _
  have q1 : Own W1 (w.heap.size + 1) 30 [.int .i64 0, .bool false, .slice none 0 0, .slice none 0 0, .slice none 0 0] := hW1 ▸ own2 w _ _ _
  have HV := Lib.hid (gvalue_num (h.below hk1))
  clear h
  have y0 := p1.cell 0
  have y1 := p1.cell 1
  have y2 := p1.cell 2
  have y3 := p1.cell 3
  have g0 := p1.frozen 0
  have g1 := p1.frozen 1
  have g2 := p1.frozen 2
  have g3 := p1.frozen 3
  simp only [List.getElem?_cons_zero, List.getElem?_cons_succ] at y0 y1 y2 y3
  go_enter Tryz.func19, Tryz.ntmps19
  go_wp2_with fail
  refine HV.out.mono ?_
  rintro e w2 ⟨V2, rfl, hr, hk2⟩
  obtain ⟨b2, A2, n2, c2, d2, B2, m2, e2, rfl⟩ := hr.open_
  obtain ⟨W3, hW3⟩ : ∃ W3, w2.alloc (.cells #[.bool b2, .slice A2 n2 c2, .bool d2, .slice B2 m2 e2] 44) = W3 := ⟨_, rfl⟩
  have hk3 : Keeps w2 W3 := hW3 ▸ box2 w2 _
  have p3 : Own W3 w2.heap.size 44 [.bool b2, .slice A2 n2 c2, .bool d2, .slice B2 m2 e2] := hW3 ▸ Own.new w2 _ _
  obtain ⟨W4, hW4⟩ : ∃ W4, W3.alloc (.cells #[.int .i64 0, .bool b2, .slice A2 n2 c2, .slice none 0 0, .slice none 0 0, .int .i64 0, .bool d2, .slice B2 m2 e2, .slice none 0 0, .slice none 0 0] 30) = W4 := ⟨_, rfl⟩
  have hk4 : Keeps W3 W4 := hW4 ▸ box2 W3 _
  have hg4 : W4.heap[W3.heap.size]? = some (.cells #[.int .i64 0, .bool b2, .slice A2 n2 c2, .slice none 0 0, .slice none 0 0, .int .i64 0, .bool d2, .slice B2 m2 e2, .slice none 0 0, .slice none 0 0] 30 (0, 0)) := hW4 ▸ heap_alloc_new W3 _
  have q4 := ((q1.below hk2).below hk3).below hk4
  have HV4 := Lib.hid (ratT_val hg4 ((hr.below hk3).below hk4) hs)
  have hlt := q1.lt
  have hs2 := hk2.size
  have hs3 := hk3.size
  clear hr hg4 y0 y1 y2 y3 g0 g1 g2 g3 p1
  have y0 := p3.cell 0
  have y1 := p3.cell 1
  have y2 := p3.cell 2
  have y3 := p3.cell 3
  have g0 := p3.frozen 0
  have g1 := p3.frozen 1
  have g2 := p3.frozen 2
  have g3 := p3.frozen 3
  simp only [List.getElem?_cons_zero, List.getElem?_cons_succ] at y0 y1 y2 y3
  have x0 := q4.cell 0
  have x1 := q4.cell 1
  have x2 := q4.cell 2
  have x3 := q4.cell 3
  have x4 := q4.cell 4
  have f0 := q4.frozen 0
  have f1 := q4.frozen 1
  have f2 := q4.frozen 2
  have f3 := q4.frozen 3
  have f4 := q4.frozen 4
  simp only [List.getElem?_cons_zero, List.getElem?_cons_succ] at x0 x1 x2 x3 x4
  go_wp2
  have r5 := (q4).put5 (a := .int .i64 2) (x := .bool false) (y := .slice none 0 0) (z := .slice none 0 0) (v := .slice (some ⟨W3.heap.size, 0, none⟩) 2 2)
  have r0 := r5.cell 0
  have r1 := r5.cell 1
  have r2 := r5.cell 2
  have r3 := r5.cell 3
  have r4 := r5.cell 4
  simp only [List.getElem?_cons_zero, List.getElem?_cons_succ] at r0 r1 r2 r3 r4
  refine bodyPost_ret (v := .agg #[.int .i64 2, .bool false, .slice none 0 0, .slice none 0 0, .slice (some ⟨W3.heap.size, 0, none⟩) 2 2]) (by simp [results, Tryz.results19, go_sem, r0, r1, r2, r3, r4]) rfl ?_
  have hkk := ((hk1.trans' hk2).trans' hk3).trans' hk4
  refine ⟨_, rfl, ?_, keeps5 hkk (by omega) _ _ _ _ _⟩
  exact (HV4.out.put5 (by omega) q4 rfl rfl).any
set_option maxRecDepth 100000 in
set_option maxHeartbeats 4000000 in
theorem ofRat_any {w : World} {V : Value} {q : Rat} (h : RatNum w V q) (hs : szR q ≤ 60000) : Calls Tryz.prog 16 #[V] w (GivesV (ratT q) w) := by
  obtain ⟨b, A, n, c, d, B, m, e, rfl⟩ := h.open_
  obtain ⟨W1, hW1⟩ : ∃ W1, (w.alloc (.cells #[.bool b, .slice A n c, .bool d, .slice B m e] 44)).alloc (.cells #[.int .i64 0, .bool false, .slice none 0 0, .slice none 0 0, .slice none 0 0] 30) = W1 := ⟨_, rfl⟩
  have hk1 : Keeps w W1 := hW1 ▸ keep2 w _ _
  have p1 : Own W1 w.heap.size 44 [.bool b, .slice A n c, .bool d, .slice B m e] := hW1 ▸ (Own.new w _ _).alloc _
  have q1 : Own W1 (w.heap.size + 1) 30 [.int .i64 0, .bool false, .slice none 0 0, .slice none 0 0, .slice none 0 0] := hW1 ▸ own2 w _ _ _
  have HV := Lib.hid (fvalue_num (h.below hk1))
  clear h
  have y0 := p1.cell 0
  have y1 := p1.cell 1
  have y2 := p1.cell 2
  have y3 := p1.cell 3
  have g0 := p1.frozen 0
  have g1 := p1.frozen 1
  have g2 := p1.frozen 2
  have g3 := p1.frozen 3
  simp only [List.getElem?_cons_zero, List.getElem?_cons_succ] at y0 y1 y2 y3
  go_enter Tryz.func16, Tryz.ntmps16
  go_wp2_with fail
  refine HV.out.mono ?_
  rintro e w2 ⟨V2, rfl, hr, hk2⟩
  obtain ⟨b2, A2, n2, c2, d2, B2, m2, e2, rfl⟩ := hr.open_
  have p2 := p1.below hk2
  clear y0 y1 y2 y3 g0 g1 g2 g3
  have y0 := p2.cell 0
  have y1 := p2.cell 1
  have y2 := p2.cell 2
  have y3 := p2.cell 3
  have g0 := p2.frozen 0
  have g1 := p2.frozen 1
  have g2 := p2.frozen 2
  have g3 := p2.frozen 3
  simp only [List.getElem?_cons_zero, List.getElem?_cons_succ] at y0 y1 y2 y3
  go_upto_region 2 with fail
  obtain ⟨W3, hW3⟩ : ∃ W3, (((w2.setCell ⟨w.heap.size, 0, none⟩ (.bool b2)).setCell ⟨w.heap.size, 1, none⟩ (.slice A2 n2 c2)).setCell ⟨w.heap.size, 2, none⟩ (.bool d2)).setCell ⟨w.heap.size, 3, none⟩ (.slice B2 m2 e2) = W3 := ⟨_, rfl⟩
  rw [hW3]
  have hk12 := hk1.trans' hk2
  have hk13 : Keeps w W3 := hW3 ▸ (((hk12.set (p := ⟨w.heap.size, 0, none⟩) (Nat.le_refl _) _).set (p := ⟨w.heap.size, 1, none⟩) (Nat.le_refl _) _).set (p := ⟨w.heap.size, 2, none⟩) (Nat.le_refl _) _).set (p := ⟨w.heap.size, 3, none⟩) (Nat.le_refl _) _
  have p3 : Own W3 w.heap.size 44 [.bool b2, .slice A2 n2 c2, .bool d2, .slice B2 m2 e2] := hW3 ▸ (((p2.set 0 (.bool b2)).set 1 (.slice A2 n2 c2)).set 2 (.bool d2)).set 3 (.slice B2 m2 e2)
  have q3 : Own W3 (w.heap.size + 1) 30 [.int .i64 0, .bool false, .slice none 0 0, .slice none 0 0, .slice none 0 0] := hW3 ▸ ((((q1.below hk2).far (p := ⟨w.heap.size, 0, none⟩) (by simp only; omega) _).far (p := ⟨w.heap.size, 1, none⟩) (by simp only; omega) _).far (p := ⟨w.heap.size, 2, none⟩) (by simp only; omega) _).far (p := ⟨w.heap.size, 3, none⟩) (by simp only; omega) _
  have s3 : Same32 w2 W3 := by
    have e1 := p2.set 0 (.bool b2)
    have e2' := e1.set 1 (.slice A2 n2 c2)
    have e3 := e2'.set 2 (.bool d2)
    exact hW3 ▸ ((same32_set p2 rfl 0 _).trans ((same32_set e1 rfl 1 _).trans ((same32_set e2' rfl 2 _).trans (same32_set e3 rfl 3 _))))
  have hr3 : RatRep W3 (.agg #[.bool b2, .slice A2 n2 c2, .bool d2, .slice B2 m2 e2]) q := hr.map s3
  obtain ⟨W4, hW4⟩ : ∃ W4, W3.alloc (.cells #[.int .i64 0, .bool b2, .slice A2 n2 c2, .slice none 0 0, .slice none 0 0, .int .i64 0, .bool d2, .slice B2 m2 e2, .slice none 0 0, .slice none 0 0] 30) = W4 := ⟨_, rfl⟩
  have hk4 : Keeps W3 W4 := hW4 ▸ box2 W3 _
  have hg4 : W4.heap[W3.heap.size]? = some (.cells #[.int .i64 0, .bool b2, .slice A2 n2 c2, .slice none 0 0, .slice none 0 0, .int .i64 0, .bool d2, .slice B2 m2 e2, .slice none 0 0, .slice none 0 0] 30 (0, 0)) := hW4 ▸ heap_alloc_new W3 _
  have q4 := q3.below hk4
  have HV4 := Lib.hid (ratT_val hg4 (hr3.below hk4) hs)
  have hlt := q3.lt
  clear hr hr3 hg4 y0 y1 y2 y3 g0 g1 g2 g3 p1 p2 hW3
  have y0 := p3.cell 0
  have y1 := p3.cell 1
  have y2 := p3.cell 2
  have y3 := p3.cell 3
  have g0 := p3.frozen 0
  have g1 := p3.frozen 1
  have g2 := p3.frozen 2
  have g3 := p3.frozen 3
  simp only [List.getElem?_cons_zero, List.getElem?_cons_succ] at y0 y1 y2 y3
  have x0 := q4.cell 0
  have x1 := q4.cell 1
  have x2 := q4.cell 2
  have x3 := q4.cell 3
  have x4 := q4.cell 4
  have f0 := q4.frozen 0
  have f1 := q4.frozen 1
  have f2 := q4.frozen 2
  have f3 := q4.frozen 3
  have f4 := q4.frozen 4
  simp only [List.getElem?_cons_zero, List.getElem?_cons_succ] at x0 x1 x2 x3 x4
  go_wp2
  have r5 := (q4).put5 (a := .int .i64 2) (x := .bool false) (y := .slice none 0 0) (z := .slice none 0 0) (v := .slice (some ⟨W3.heap.size, 0, none⟩) 2 2)
  have r0 := r5.cell 0
  have r1 := r5.cell 1
  have r2 := r5.cell 2
  have r3 := r5.cell 3
  have r4 := r5.cell 4
  simp only [List.getElem?_cons_zero, List.getElem?_cons_succ] at r0 r1 r2 r3 r4
  refine bodyPost_ret (v := .agg #[.int .i64 2, .bool false, .slice none 0 0, .slice none 0 0, .slice (some ⟨W3.heap.size, 0, none⟩) 2 2]) (by simp [results, Tryz.results16, go_sem, r0, r1, r2, r3, r4]) rfl ?_
  have hkk := hk13.trans' hk4
  refine ⟨_, rfl, ?_, keeps5 hkk (by omega) _ _ _ _ _⟩
  exact (HV4.out.put5 (by omega) q4 rfl rfl).any
end Go.Proofs.YtomjnjpehokjbaaGreatDoor
