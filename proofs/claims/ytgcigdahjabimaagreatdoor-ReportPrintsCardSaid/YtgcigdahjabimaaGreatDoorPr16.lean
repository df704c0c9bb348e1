/- The walk of Divide. -/
import Derived.Test.YtgcigdahjabimaaGreatDoorPr13
import Derived.Test.YtgcigdahjabimaaGreatDoorPr9
namespace Go.Proofs.YtgcigdahjabimaaGreatDoor
open Go.RowKit Go.Shelf

def divQ (x y : Int) : Int := if y = 0 then 0 else x.fdiv y
def divR (x y : Int) : Int := if y = 0 then 0 else x.fmod y
def divC (y : Int) : Int := if y = 0 then 14 else 0
theorem fdiv_pos {x q r b : Int} (hb : 0 < b) (e : r + b * q = x) (h0 : 0 ≤ r) (h1 : r < b) : x.fdiv b = q ∧ x.fmod b = r := by
 rw [Int.fdiv_eq_ediv_of_nonneg _ (by omega), Int.fmod_eq_emod_of_nonneg _ (by omega)]
 exact (Int.ediv_emod_unique hb).2 ⟨e, h0, h1⟩
theorem fdiv_neg' {x q r b : Int} (hb : 0 < b) (e : r + b * q = -x) (h0 : 0 ≤ r) (h1 : r < b) : x.fdiv (-b) = q ∧ x.fmod (-b) = -r := by
 have h := fdiv_pos hb e h0 h1
 have h2 := Int.neg_fdiv_neg x (-b)
 have h3 := Int.neg_fmod_neg x (-b)
 rw [Int.neg_neg] at h2 h3
 rw [h.1] at h2
 rw [h.2] at h3
 exact ⟨h2.symm, by omega⟩
theorem divide_sgn (n1 n2 : Bool) (a b : Nat) (hb : b ≠ 0) :
 (sgn n1 a).fdiv (sgn n2 b) = sgn (n1 != n2) (if a % b ≠ 0 ∧ n1 ≠ n2 then a / b + 1 else a / b) ∧ (sgn n1 a).fmod (sgn n2 b) = sgn n2 (if a % b ≠ 0 ∧ n1 ≠ n2 then b - a % b else a % b) := by
 have hd := Nat.div_add_mod a b
 have hm := Nat.mod_lt a (show 0 < b by omega)
 obtain ⟨q, hq⟩ : ∃ q, a / b = q := ⟨_, rfl⟩
 obtain ⟨r, hr⟩ : ∃ r, a % b = r := ⟨_, rfl⟩
 rw [hq, hr] at hd
 rw [hr] at hm
 rw [hq, hr]
 have hI : (b : Int) * q + r = a := by rw [← hd]; push_cast; rfl
 have hb0 : (0 : Int) < b := by omega
 cases n1 <;> cases n2
 ·rw [if_neg (by simp), if_neg (by simp)]
  have := fdiv_pos (x := (a : Int)) (q := (q : Int)) (r := (r : Int)) hb0 (by omega) (by omega) (by omega)
  simpa [sgn] using this
 ·by_cases h0 : r = 0
  ·subst h0
   rw [if_neg (by simp), if_neg (by simp)]
   have := fdiv_neg' (x := (a : Int)) (q := -(q : Int)) (r := 0) hb0 (by rw [Int.mul_neg]; omega) (by omega) hb0
   simpa [sgn] using this
  ·rw [if_pos ⟨h0, by simp⟩, if_pos ⟨h0, by simp⟩]
   have := fdiv_neg' (x := (a : Int)) (q := -((q : Int) + 1)) (r := (b : Int) - r) hb0 (by rw [Int.mul_neg, Int.mul_add]; omega) (by omega) (by omega)
   refine ⟨this.1.trans ?_, this.2.trans ?_⟩ <;> simp [sgn]
   omega
 ·by_cases h0 : r = 0
  ·subst h0
   rw [if_neg (by simp), if_neg (by simp)]
   have := fdiv_pos (x := -(a : Int)) (q := -(q : Int)) (r := 0) hb0 (by rw [Int.mul_neg]; omega) (by omega) hb0
   simpa [sgn] using this
  ·rw [if_pos ⟨h0, by simp⟩, if_pos ⟨h0, by simp⟩]
   have := fdiv_pos (x := -(a : Int)) (q := -((q : Int) + 1)) (r := (b : Int) - r) hb0 (by rw [Int.mul_neg, Int.mul_add]; omega) (by omega) (by omega)
   refine ⟨this.1.trans ?_, this.2.trans ?_⟩ <;> simp [sgn]
   omega
 ·rw [if_neg (by simp), if_neg (by simp)]
  have := fdiv_neg' (x := -(a : Int)) (q := (q : Int)) (r := (r : Int)) hb0 (by omega) (by omega) (by omega)
  simpa [sgn] using this

theorem made_z (neg : Bool) (v : Value) (m : Nat) (z : Int) (w : World) (h : U32 w v (dig m)) (e : sgn neg m = z) :
 Calls Tryz.prog 90 #[.bool neg, v] w fun e w' => ∃ V, e = .returned V ∧ IntRep w' V z ∧ Keeps w w' := by subst e; exact made_d neg v m w h
set_option maxRecDepth 100000 in
set_option maxHeartbeats 2000000 in
theorem divide_any (n1 n2 : Bool) (xs ys : List Nat) (V1 V2 : Value) (w : World) (h1 : IntArg w V1 n1 xs) (h2 : IntArg w V2 n2 ys) (hm1 : xs.length ≤ 900000) (hm2 : ys.length ≤ 900000) :
 Calls Tryz.prog 136 #[V1, V2] w fun e w' => ∃ Q R, e = .returned (.tuple #[Q, R, .int .i64 (divC (cnt n2 ys))]) ∧ IntRep w' Q (divQ (cnt n1 xs) (cnt n2 ys)) ∧ IntRep w' R (divR (cnt n1 xs) (cnt n2 ys)) ∧ Keeps w w' := by
 obtain ⟨v1, rfl, hv1⟩ := h1
 obtain ⟨v2, rfl, hv2⟩ := h2
 have hml1 := mag_length n1 xs
 have hml2 := mag_length n2 ys
 have hkk : Keeps w ((((w.alloc (.cells #[.bool n1, v1] 29)).alloc (.cells #[.bool n2, v2] 29)).alloc (.cells #[.bool false, .slice none 0 0] 29)).alloc (.cells #[.bool false, .slice none 0 0] 29)) := (keep3 w _ _ _).alloc (by simp; omega) _
 have hG1 := Lib.hid (fun W (hW : IntArg W (.agg #[.bool n1, v1]) n1 xs) => groups_any n1 xs (.agg #[.bool n1, v1]) W hW (by omega))
 have hG2 := Lib.hid (fun W (hW : IntArg W (.agg #[.bool n2, v2]) n2 ys) => groups_any n2 ys (.agg #[.bool n2, v2]) W hW (by omega))
 have hA := (((Own.new w 29 [.bool n1, v1]).alloc (.cells #[.bool n2, v2] 29)).alloc (.cells #[.bool false, .slice none 0 0] 29)).alloc (.cells #[.bool false, .slice none 0 0] 29)
 have hB := ((own2 w (.cells #[.bool n1, v1] 29) 29 [.bool n2, v2]).alloc (.cells #[.bool false, .slice none 0 0] 29)).alloc (.cells #[.bool false, .slice none 0 0] 29)
 have hQ := (own3 w (.cells #[.bool n1, v1] 29) (.cells #[.bool n2, v2] 29) 29 [.bool false, .slice none 0 0]).alloc (.cells #[.bool false, .slice none 0 0] 29)
 have hR := Own.new (((w.alloc (.cells #[.bool n1, v1] 29)).alloc (.cells #[.bool n2, v2] 29)).alloc (.cells #[.bool false, .slice none 0 0] 29)) 29 [.bool false, .slice none 0 0]
 simp only [World.size_alloc] at hR
 have HC1 := Lib.hid (show cnt n1 xs = sgn n1 (mag n1 xs) from rfl)
 have HC2 := Lib.hid (show cnt n2 ys = sgn n2 (mag n2 ys) from rfl)
 go_enter Tryz.func136, Tryz.ntmps136
 go_wp2_with fail
 have g1 := hv1.below hkk
 have g2 := hv2.below hkk
 generalize (((w.alloc (.cells #[.bool n1, v1] 29)).alloc (.cells #[.bool n2, v2] 29)).alloc (.cells #[.bool false, .slice none 0 0] 29)).alloc (.cells #[.bool false, .slice none 0 0] 29) = W at *
 generalize mag n1 xs = a at *
 generalize mag n2 ys = b at *
 replace hA := hA.drew
 replace hB := hB.drew
 replace hQ := hQ.drew
 replace hR := hR.drew
 replace g1 := g1.drew
 replace g2 := g2.drew
 replace hkk : Keeps w W.drew := Below.drew hkk
 go_region_held3 (fun w' => w'.cell? ⟨w.heap.size, 0, none⟩ = some (.bool n1) ∧ w'.cell? ⟨w.heap.size, 1, none⟩ = some v1 ∧ w'.cell? ⟨w.heap.size + 1, 0, none⟩ = some (.bool n2) ∧ w'.cell? ⟨w.heap.size + 1, 1, none⟩ = some v2)
  (exact ⟨hA.c0, hA.c1, hB.c0, hB.c1⟩)
  (first
   | (go_at_call_of 127 (Value.agg #[Value.bool n1, v1]); refine (hG1.out _ ⟨v1, rfl, g1⟩).mono ?_; rintro e w1 ⟨u1, rfl, hu1, hk⟩; replace hA := hA.below hk; replace hB := hB.below hk; replace hQ := hQ.below hk; replace hR := hR.below hk; replace g2 := g2.below hk; replace hkk := hkk.trans' hk)
   | (go_at_call 127; refine (hG2.out _ ⟨v2, rfl, g2⟩).mono ?_; rintro e w2 ⟨u2, rfl, hu2, hk⟩; replace hA := hA.below hk; replace hB := hB.below hk; replace hQ := hQ.below hk; replace hR := hR.below hk; replace hu1 := hu1.below hk; replace hkk := hkk.trans' hk))
 clear g1 g2 hG1 hG2
 obtain ⟨A2, m2, c2, rfl, e2, -⟩ := hu2.open_
 have q0 := hQ.c0
 have q1 := hQ.c1
 have q2 := hQ.frozen 0
 have q3 := hQ.frozen 1
 have r0 := hR.c0
 have r1 := hR.c1
 have r2 := hR.frozen 0
 have r3 := hR.frozen 1
 by_cases hb : b = 0
 ·subst hb
  rw [dig_zero] at e2
  obtain rfl : m2 = 0 := by simpa using e2.symm
  go_wp2
  have hQ' := (hQ.two (.bool false) (.slice none 0 0)).far2 (show w.heap.size + 1 + 1 ≠ w.heap.size + 1 + 1 + 1 by omega) (x := (.bool false)) (y := (.slice none 0 0))
  have hR' := (hR.far2 (show w.heap.size + 1 + 1 + 1 ≠ w.heap.size + 1 + 1 by omega) (x := (.bool false)) (y := (.slice none 0 0))).two (.bool false) (.slice none 0 0)
  refine bodyPost_ret (v := .tuple #[.agg #[(.bool false), (.slice none 0 0)], .agg #[(.bool false), (.slice none 0 0)], .int .i64 14]) (by simp [results, Tryz.results136, go_sem, hQ'.cell 0, hQ'.cell 1, hR'.cell 0, hR'.cell 1]) rfl ?_
  have hkE := (((hkk.set (p := ⟨w.heap.size + 1 + 1, 0, none⟩) (by simp only; omega) (.bool false)).set (p := ⟨w.heap.size + 1 + 1, 1, none⟩) (by simp only; omega) (.slice none 0 0)).set (p := ⟨w.heap.size + 1 + 1 + 1, 0, none⟩) (by simp only; omega) (.bool false)).set (p := ⟨w.heap.size + 1 + 1 + 1, 1, none⟩) (by simp only; omega) (.slice none 0 0)
  have hy : cnt n2 ys = 0 := by rw [HC2.out, sgn_zero]
  refine ⟨.agg #[.bool false, .slice none 0 0], .agg #[.bool false, .slice none 0 0], ?_, ?_, ?_, hkE⟩
  ·rw [hy]; rfl
  ·rw [hy]; exact IntRep.zero _
  ·rw [hy]; exact IntRep.zero _
 ·have hm2p : 0 < m2 := by have := dig_length_pos.2 hb; omega
  have hbl : (dig b).length ≤ 900000 := by omega
  have hra : (dig (a % b)).length ≤ 900000 := by have := dig_length_mono (Nat.le_of_lt (Nat.mod_lt a (show 0 < b by omega))); omega
  have hqa : (dig (a / b)).length ≤ 900000 := by have := dig_length_mono (Nat.div_le_self a b); omega
  have hrlt := Nat.mod_lt a (show 0 < b by omega)
  have HE2 := Lib.hid e2
  have HDS := Lib.hid (divide_sgn n1 n2 a b hb)
  have hb0 : ((m2 : Int) == 0) = false := by rw [beq_eq_false_iff_ne]; omega
  clear q0 q1 q2 q3 r0 r1 r2 r3 e2
  go_wp2_with fail
  refine (over_any _ _ a b _ hu1 hu2 (by omega) (by omega) hb).mono ?_
  rintro e w3 ⟨c1, d1, rfl, hc, hd1, hk⟩
  replace hA := hA.below hk
  replace hB := hB.below hk
  replace hQ := hQ.below hk
  replace hR := hR.below hk
  replace hkk := hkk.trans' hk
  replace hu2 := hu2.below hk
  go_wp2_with fail
  refine (clone_u _ (dig (a % b)) _ hd1 (by omega)).mono ?_
  rintro e w4 ⟨d, rfl, hd, hk⟩
  replace hA := hA.below hk
  replace hB := hB.below hk
  replace hQ := hQ.below hk
  replace hR := hR.below hk
  replace hkk := hkk.trans' hk
  replace hu2 := hu2.below hk
  replace hc := hc.below hk
  clear hd1 hk
  obtain ⟨A4, n4, c4, rfl, e4, -⟩ := hd.open_
  cases n1 <;> cases n2
  ·
   by_cases hr : a % b = 0
   ·have hn4 : n4 = 0 := by rw [hr, dig_zero] at e4; simpa using e4.symm
    subst hn4
    clear hr e4
    have a0 := hA.c0
    have a1 := hA.c1
    have b0 := hB.c0
    have b1 := hB.c1
    go_wp2_with fail
    obtain ⟨A5, n5, c5, rfl, -⟩ := hc.open_
    replace hA := hA.drew
    replace hB := hB.drew
    replace hQ := hQ.drew
    replace hR := hR.drew
    replace hc := hc.drew
    replace hd := hd.drew
    replace hkk : Keeps w _ := Below.drew hkk
    obtain ⟨zq, hzq⟩ : ∃ z, sgn false (a / b) = z := ⟨_, rfl⟩
    obtain ⟨zr, hzr⟩ : ∃ z, sgn false (a % b) = z := ⟨_, rfl⟩
    have HZQ := Lib.hid hzq
    have HZR := Lib.hid hzr
    clear hzq hzr
    go_wp2_with fail
    go_region_held3 (fun w' => w'.cell? ⟨w.heap.size, 0, none⟩ = some (.bool false) ∧ w'.cell? ⟨w.heap.size + 1, 0, none⟩ = some (.bool false))
     (first | (with_reducible exact ⟨hA.c0, hB.c0⟩) | (with_reducible exact ⟨(hA.far2 (R := w.heap.size + 1 + 1) (by omega)).c0, (hB.far2 (R := w.heap.size + 1 + 1) (by omega)).c0⟩) | (with_reducible exact ⟨((hA.far2 (R := w.heap.size + 1 + 1) (by omega)).far2 (R := w.heap.size + 1 + 1 + 1) (by omega)).c0, ((hB.far2 (R := w.heap.size + 1 + 1) (by omega)).far2 (R := w.heap.size + 1 + 1 + 1) (by omega)).c0⟩))
     (first
      | (go_at_call_of 90 (Value.slice A5 n5 c5); refine (made_z false _ (a / b) zq _ hc HZQ.out).mono ?_; rintro e w6 ⟨V5, rfl, hr5, hk⟩; replace hA := hA.below hk; replace hB := hB.below hk; replace hQ := hQ.below hk; replace hR := hR.below hk; replace hkk := hkk.trans' hk; replace hd := hd.below hk; obtain ⟨A7, n7, c7, rfl, -⟩ := hr5.open_)
      | (go_at_call 90; refine (made_z false _ (a % b) zr _ hd HZR.out).mono ?_; rintro e w7 ⟨V6, rfl, hr6, hk⟩; replace hA := hA.below hk; replace hB := hB.below hk; replace hQ := hQ.below hk; replace hR := hR.below hk; replace hkk := hkk.trans' hk; replace hr5 := hr5.below hk; obtain ⟨A8, n8, c8, rfl, -⟩ := hr6.open_; have q0 := hQ.c0; have q1 := hQ.c1; have q2 := hQ.frozen 0; have q3 := hQ.frozen 1; have r0 := hR.c0; have r1 := hR.c1; have r2 := hR.frozen 0; have r3 := hR.frozen 1))
    have hy0 : cnt false ys ≠ 0 := by rw [HC2.out]; intro h; have := congrArg Int.natAbs h; rw [sgn_natAbs] at this; exact hb this
    have eQ : divQ (cnt false xs) (cnt false ys) = sgn false (a / b) := by unfold divQ; rw [if_neg hy0, HC1.out, HC2.out, HDS.out.1, if_neg (fun h => h.2 rfl)]; rfl
    have eR : divR (cnt false xs) (cnt false ys) = sgn false (a % b) := by unfold divR; rw [if_neg hy0, HC1.out, HC2.out, HDS.out.2, if_neg (fun h => h.2 rfl)]
    have eC : divC (cnt false ys) = 0 := if_neg hy0
    have HEQ := Lib.hid eQ
    have HER := Lib.hid eR
    have HEC := Lib.hid eC
    clear eQ eR eC hy0
    go_wp2
    have hQ' := (hQ.two (.bool (decide (zq < 0))) (.slice A7 n7 c7)).far2 (show w.heap.size + 1 + 1 ≠ w.heap.size + 1 + 1 + 1 by omega) (x := (.bool (decide (zr < 0)))) (y := (.slice A8 n8 c8))
    have hR' := (hR.far2 (show w.heap.size + 1 + 1 + 1 ≠ w.heap.size + 1 + 1 by omega) (x := (.bool (decide (zq < 0)))) (y := (.slice A7 n7 c7))).two (.bool (decide (zr < 0))) (.slice A8 n8 c8)
    refine bodyPost_ret (v := .tuple #[.agg #[(.bool (decide (zq < 0))), (.slice A7 n7 c7)], .agg #[(.bool (decide (zr < 0))), (.slice A8 n8 c8)], .int .i64 0]) (by simp [results, Tryz.results136, go_sem, hQ'.cell 0, hQ'.cell 1, hR'.cell 0, hR'.cell 1]) rfl ?_
    have hkE := (((hkk.set (p := ⟨w.heap.size + 1 + 1, 0, none⟩) (by simp only; omega) (.bool (decide (zq < 0)))).set (p := ⟨w.heap.size + 1 + 1, 1, none⟩) (by simp only; omega) (.slice A7 n7 c7)).set (p := ⟨w.heap.size + 1 + 1 + 1, 0, none⟩) (by simp only; omega) (.bool (decide (zr < 0)))).set (p := ⟨w.heap.size + 1 + 1 + 1, 1, none⟩) (by simp only; omega) (.slice A8 n8 c8)
    refine ⟨.agg #[.bool (decide (zq < 0)), .slice A7 n7 c7], .agg #[.bool (decide (zr < 0)), .slice A8 n8 c8], ?_, ?_, ?_, hkE⟩
    ·rw [HEC.out]
    ·rw [HEQ.out, HZQ.out]
     exact (hr5.two (x' := .bool (decide (zq < 0))) (y' := .slice A7 n7 c7) hQ rfl rfl rfl).two (hR.far2 (by omega)) rfl rfl rfl
    ·rw [HER.out, HZR.out]
     exact (hr6.two (x' := .bool (decide (zq < 0))) (y' := .slice A7 n7 c7) hQ rfl rfl rfl).two (hR.far2 (by omega)) rfl rfl rfl
   ·have hn4 : 0 < n4 := by have := dig_length_pos.2 hr; omega
    clear hr e4
    have a0 := hA.c0
    have a1 := hA.c1
    have b0 := hB.c0
    have b1 := hB.c1
    go_wp2_with fail
    obtain ⟨A5, n5, c5, rfl, -⟩ := hc.open_
    replace hA := hA.drew
    replace hB := hB.drew
    replace hQ := hQ.drew
    replace hR := hR.drew
    replace hc := hc.drew
    replace hd := hd.drew
    replace hkk : Keeps w _ := Below.drew hkk
    obtain ⟨zq, hzq⟩ : ∃ z, sgn false (a / b) = z := ⟨_, rfl⟩
    obtain ⟨zr, hzr⟩ : ∃ z, sgn false (a % b) = z := ⟨_, rfl⟩
    have HZQ := Lib.hid hzq
    have HZR := Lib.hid hzr
    clear hzq hzr
    go_wp2_with fail
    go_region_held3 (fun w' => w'.cell? ⟨w.heap.size, 0, none⟩ = some (.bool false) ∧ w'.cell? ⟨w.heap.size + 1, 0, none⟩ = some (.bool false))
     (first | (with_reducible exact ⟨hA.c0, hB.c0⟩) | (with_reducible exact ⟨(hA.far2 (R := w.heap.size + 1 + 1) (by omega)).c0, (hB.far2 (R := w.heap.size + 1 + 1) (by omega)).c0⟩) | (with_reducible exact ⟨((hA.far2 (R := w.heap.size + 1 + 1) (by omega)).far2 (R := w.heap.size + 1 + 1 + 1) (by omega)).c0, ((hB.far2 (R := w.heap.size + 1 + 1) (by omega)).far2 (R := w.heap.size + 1 + 1 + 1) (by omega)).c0⟩))
     (first
      | (go_at_call_of 90 (Value.slice A5 n5 c5); refine (made_z false _ (a / b) zq _ hc HZQ.out).mono ?_; rintro e w6 ⟨V5, rfl, hr5, hk⟩; replace hA := hA.below hk; replace hB := hB.below hk; replace hQ := hQ.below hk; replace hR := hR.below hk; replace hkk := hkk.trans' hk; replace hd := hd.below hk; obtain ⟨A7, n7, c7, rfl, -⟩ := hr5.open_)
      | (go_at_call 90; refine (made_z false _ (a % b) zr _ hd HZR.out).mono ?_; rintro e w7 ⟨V6, rfl, hr6, hk⟩; replace hA := hA.below hk; replace hB := hB.below hk; replace hQ := hQ.below hk; replace hR := hR.below hk; replace hkk := hkk.trans' hk; replace hr5 := hr5.below hk; obtain ⟨A8, n8, c8, rfl, -⟩ := hr6.open_; have q0 := hQ.c0; have q1 := hQ.c1; have q2 := hQ.frozen 0; have q3 := hQ.frozen 1; have r0 := hR.c0; have r1 := hR.c1; have r2 := hR.frozen 0; have r3 := hR.frozen 1))
    have hy0 : cnt false ys ≠ 0 := by rw [HC2.out]; intro h; have := congrArg Int.natAbs h; rw [sgn_natAbs] at this; exact hb this
    have eQ : divQ (cnt false xs) (cnt false ys) = sgn false (a / b) := by unfold divQ; rw [if_neg hy0, HC1.out, HC2.out, HDS.out.1, if_neg (fun h => h.2 rfl)]; rfl
    have eR : divR (cnt false xs) (cnt false ys) = sgn false (a % b) := by unfold divR; rw [if_neg hy0, HC1.out, HC2.out, HDS.out.2, if_neg (fun h => h.2 rfl)]
    have eC : divC (cnt false ys) = 0 := if_neg hy0
    have HEQ := Lib.hid eQ
    have HER := Lib.hid eR
    have HEC := Lib.hid eC
    clear eQ eR eC hy0
    go_wp2
    have hQ' := (hQ.two (.bool (decide (zq < 0))) (.slice A7 n7 c7)).far2 (show w.heap.size + 1 + 1 ≠ w.heap.size + 1 + 1 + 1 by omega) (x := (.bool (decide (zr < 0)))) (y := (.slice A8 n8 c8))
    have hR' := (hR.far2 (show w.heap.size + 1 + 1 + 1 ≠ w.heap.size + 1 + 1 by omega) (x := (.bool (decide (zq < 0)))) (y := (.slice A7 n7 c7))).two (.bool (decide (zr < 0))) (.slice A8 n8 c8)
    refine bodyPost_ret (v := .tuple #[.agg #[(.bool (decide (zq < 0))), (.slice A7 n7 c7)], .agg #[(.bool (decide (zr < 0))), (.slice A8 n8 c8)], .int .i64 0]) (by simp [results, Tryz.results136, go_sem, hQ'.cell 0, hQ'.cell 1, hR'.cell 0, hR'.cell 1]) rfl ?_
    have hkE := (((hkk.set (p := ⟨w.heap.size + 1 + 1, 0, none⟩) (by simp only; omega) (.bool (decide (zq < 0)))).set (p := ⟨w.heap.size + 1 + 1, 1, none⟩) (by simp only; omega) (.slice A7 n7 c7)).set (p := ⟨w.heap.size + 1 + 1 + 1, 0, none⟩) (by simp only; omega) (.bool (decide (zr < 0)))).set (p := ⟨w.heap.size + 1 + 1 + 1, 1, none⟩) (by simp only; omega) (.slice A8 n8 c8)
    refine ⟨.agg #[.bool (decide (zq < 0)), .slice A7 n7 c7], .agg #[.bool (decide (zr < 0)), .slice A8 n8 c8], ?_, ?_, ?_, hkE⟩
    ·rw [HEC.out]
    ·rw [HEQ.out, HZQ.out]
     exact (hr5.two (x' := .bool (decide (zq < 0))) (y' := .slice A7 n7 c7) hQ rfl rfl rfl).two (hR.far2 (by omega)) rfl rfl rfl
    ·rw [HER.out, HZR.out]
     exact (hr6.two (x' := .bool (decide (zq < 0))) (y' := .slice A7 n7 c7) hQ rfl rfl rfl).two (hR.far2 (by omega)) rfl rfl rfl
  ·
   by_cases hr : a % b = 0
   ·have hn4 : n4 = 0 := by rw [hr, dig_zero] at e4; simpa using e4.symm
    subst hn4
    have HR0 := Lib.hid hr
    clear hr e4
    have a0 := hA.c0
    have a1 := hA.c1
    have b0 := hB.c0
    have b1 := hB.c1
    go_wp2_with fail
    obtain ⟨A5, n5, c5, rfl, -⟩ := hc.open_
    replace hA := hA.drew
    replace hB := hB.drew
    replace hQ := hQ.drew
    replace hR := hR.drew
    replace hc := hc.drew
    replace hd := hd.drew
    replace hkk : Keeps w _ := Below.drew hkk
    obtain ⟨zq, hzq⟩ : ∃ z, sgn true (a / b) = z := ⟨_, rfl⟩
    obtain ⟨zr, hzr⟩ : ∃ z, sgn true (a % b) = z := ⟨_, rfl⟩
    have HZQ := Lib.hid hzq
    have HZR := Lib.hid hzr
    clear hzq hzr
    go_wp2_with fail
    go_region_held3 (fun w' => w'.cell? ⟨w.heap.size, 0, none⟩ = some (.bool false) ∧ w'.cell? ⟨w.heap.size + 1, 0, none⟩ = some (.bool true))
     (first | (with_reducible exact ⟨hA.c0, hB.c0⟩) | (with_reducible exact ⟨(hA.far2 (R := w.heap.size + 1 + 1) (by omega)).c0, (hB.far2 (R := w.heap.size + 1 + 1) (by omega)).c0⟩) | (with_reducible exact ⟨((hA.far2 (R := w.heap.size + 1 + 1) (by omega)).far2 (R := w.heap.size + 1 + 1 + 1) (by omega)).c0, ((hB.far2 (R := w.heap.size + 1 + 1) (by omega)).far2 (R := w.heap.size + 1 + 1 + 1) (by omega)).c0⟩))
     (first
      | (go_at_call_of 90 (Value.slice A5 n5 c5); refine (made_z true _ (a / b) zq _ hc HZQ.out).mono ?_; rintro e w6 ⟨V5, rfl, hr5, hk⟩; replace hA := hA.below hk; replace hB := hB.below hk; replace hQ := hQ.below hk; replace hR := hR.below hk; replace hkk := hkk.trans' hk; replace hd := hd.below hk; obtain ⟨A7, n7, c7, rfl, -⟩ := hr5.open_)
      | (go_at_call 90; refine (made_z true _ (a % b) zr _ hd HZR.out).mono ?_; rintro e w7 ⟨V6, rfl, hr6, hk⟩; replace hA := hA.below hk; replace hB := hB.below hk; replace hQ := hQ.below hk; replace hR := hR.below hk; replace hkk := hkk.trans' hk; replace hr5 := hr5.below hk; obtain ⟨A8, n8, c8, rfl, -⟩ := hr6.open_; have q0 := hQ.c0; have q1 := hQ.c1; have q2 := hQ.frozen 0; have q3 := hQ.frozen 1; have r0 := hR.c0; have r1 := hR.c1; have r2 := hR.frozen 0; have r3 := hR.frozen 1))
    have hy0 : cnt true ys ≠ 0 := by rw [HC2.out]; intro h; have := congrArg Int.natAbs h; rw [sgn_natAbs] at this; exact hb this
    have eQ : divQ (cnt false xs) (cnt true ys) = sgn true (a / b) := by unfold divQ; rw [if_neg hy0, HC1.out, HC2.out, HDS.out.1, if_neg (fun h => h.1 HR0.out)]; rfl
    have eR : divR (cnt false xs) (cnt true ys) = sgn true (a % b) := by unfold divR; rw [if_neg hy0, HC1.out, HC2.out, HDS.out.2, if_neg (fun h => h.1 HR0.out)]
    have eC : divC (cnt true ys) = 0 := if_neg hy0
    have HEQ := Lib.hid eQ
    have HER := Lib.hid eR
    have HEC := Lib.hid eC
    clear eQ eR eC hy0
    go_wp2
    have hQ' := (hQ.two (.bool (decide (zq < 0))) (.slice A7 n7 c7)).far2 (show w.heap.size + 1 + 1 ≠ w.heap.size + 1 + 1 + 1 by omega) (x := (.bool (decide (zr < 0)))) (y := (.slice A8 n8 c8))
    have hR' := (hR.far2 (show w.heap.size + 1 + 1 + 1 ≠ w.heap.size + 1 + 1 by omega) (x := (.bool (decide (zq < 0)))) (y := (.slice A7 n7 c7))).two (.bool (decide (zr < 0))) (.slice A8 n8 c8)
    refine bodyPost_ret (v := .tuple #[.agg #[(.bool (decide (zq < 0))), (.slice A7 n7 c7)], .agg #[(.bool (decide (zr < 0))), (.slice A8 n8 c8)], .int .i64 0]) (by simp [results, Tryz.results136, go_sem, hQ'.cell 0, hQ'.cell 1, hR'.cell 0, hR'.cell 1]) rfl ?_
    have hkE := (((hkk.set (p := ⟨w.heap.size + 1 + 1, 0, none⟩) (by simp only; omega) (.bool (decide (zq < 0)))).set (p := ⟨w.heap.size + 1 + 1, 1, none⟩) (by simp only; omega) (.slice A7 n7 c7)).set (p := ⟨w.heap.size + 1 + 1 + 1, 0, none⟩) (by simp only; omega) (.bool (decide (zr < 0)))).set (p := ⟨w.heap.size + 1 + 1 + 1, 1, none⟩) (by simp only; omega) (.slice A8 n8 c8)
    refine ⟨.agg #[.bool (decide (zq < 0)), .slice A7 n7 c7], .agg #[.bool (decide (zr < 0)), .slice A8 n8 c8], ?_, ?_, ?_, hkE⟩
    ·rw [HEC.out]
    ·rw [HEQ.out, HZQ.out]
     exact (hr5.two (x' := .bool (decide (zq < 0))) (y' := .slice A7 n7 c7) hQ rfl rfl rfl).two (hR.far2 (by omega)) rfl rfl rfl
    ·rw [HER.out, HZR.out]
     exact (hr6.two (x' := .bool (decide (zq < 0))) (y' := .slice A7 n7 c7) hQ rfl rfl rfl).two (hR.far2 (by omega)) rfl rfl rfl
   ·have hn4 : 0 < n4 := by have := dig_length_pos.2 hr; omega
    have HR0 := Lib.hid hr
    clear hr e4
    have a0 := hA.c0
    have a1 := hA.c1
    have b0 := hB.c0
    have b1 := hB.c1
    go_wp2_with fail
    have ho1 := Own.new w4 109 (u32s [1])
    have hk9 := box2 w4 (.cells (u32s [1]).toArray 109)
    have hu1' : U32 (w4.alloc (.cells (u32s [1]).toArray 109)) (.slice (some ⟨w4.heap.size, 0, none⟩) 1 1) (dig 1) := by rw [dig_small (by omega) (by omega)]; exact U32.mk (c := 1) ho1.row (by simp) (by simp [maxLen]) (by intro e; cases e)
    refine (plus_d _ _ (a / b) 1 _ (hc.below hk9) hu1' (by omega) (by rw [dig_small (by omega) (by omega)]; simp)).mono ?_
    rintro e w5 ⟨c9, rfl, hc9, hk⟩
    replace hk := hk9.trans' hk
    replace hA := hA.below hk
    replace hB := hB.below hk
    replace hQ := hQ.below hk
    replace hR := hR.below hk
    replace hkk := hkk.trans' hk
    replace hu2 := hu2.below hk
    replace hd := hd.below hk
    clear hc ho1 hk9 hu1' hk a0 a1 b0 b1
    have hc := hc9
    go_wp2_with fail
    refine (minus_d _ _ b (a % b) _ hu2 hd (by omega) (by omega)).mono ?_
    rintro e w6 ⟨d9, rfl, hd9, hk⟩
    replace hA := hA.below hk
    replace hB := hB.below hk
    replace hQ := hQ.below hk
    replace hR := hR.below hk
    replace hkk := hkk.trans' hk
    replace hc := hc.below hk
    clear hd hc9
    have hd := hd9
    have a0 := hA.c0
    have a1 := hA.c1
    have b0 := hB.c0
    have b1 := hB.c1
    go_wp2_with fail
    obtain ⟨A5, n5, c5, rfl, -⟩ := hc.open_
    replace hA := hA.drew
    replace hB := hB.drew
    replace hQ := hQ.drew
    replace hR := hR.drew
    replace hc := hc.drew
    replace hd := hd.drew
    replace hkk : Keeps w _ := Below.drew hkk
    obtain ⟨zq, hzq⟩ : ∃ z, sgn true (a / b + 1) = z := ⟨_, rfl⟩
    obtain ⟨zr, hzr⟩ : ∃ z, sgn true (b - a % b) = z := ⟨_, rfl⟩
    have HZQ := Lib.hid hzq
    have HZR := Lib.hid hzr
    clear hzq hzr
    go_wp2_with fail
    go_region_held3 (fun w' => w'.cell? ⟨w.heap.size, 0, none⟩ = some (.bool false) ∧ w'.cell? ⟨w.heap.size + 1, 0, none⟩ = some (.bool true))
     (first | (with_reducible exact ⟨hA.c0, hB.c0⟩) | (with_reducible exact ⟨(hA.far2 (R := w.heap.size + 1 + 1) (by omega)).c0, (hB.far2 (R := w.heap.size + 1 + 1) (by omega)).c0⟩) | (with_reducible exact ⟨((hA.far2 (R := w.heap.size + 1 + 1) (by omega)).far2 (R := w.heap.size + 1 + 1 + 1) (by omega)).c0, ((hB.far2 (R := w.heap.size + 1 + 1) (by omega)).far2 (R := w.heap.size + 1 + 1 + 1) (by omega)).c0⟩))
     (first
      | (go_at_call_of 90 (Value.slice A5 n5 c5); refine (made_z true _ (a / b + 1) zq _ hc HZQ.out).mono ?_; rintro e w6 ⟨V5, rfl, hr5, hk⟩; replace hA := hA.below hk; replace hB := hB.below hk; replace hQ := hQ.below hk; replace hR := hR.below hk; replace hkk := hkk.trans' hk; replace hd := hd.below hk; obtain ⟨A7, n7, c7, rfl, -⟩ := hr5.open_)
      | (go_at_call 90; refine (made_z true _ (b - a % b) zr _ hd HZR.out).mono ?_; rintro e w7 ⟨V6, rfl, hr6, hk⟩; replace hA := hA.below hk; replace hB := hB.below hk; replace hQ := hQ.below hk; replace hR := hR.below hk; replace hkk := hkk.trans' hk; replace hr5 := hr5.below hk; obtain ⟨A8, n8, c8, rfl, -⟩ := hr6.open_; have q0 := hQ.c0; have q1 := hQ.c1; have q2 := hQ.frozen 0; have q3 := hQ.frozen 1; have r0 := hR.c0; have r1 := hR.c1; have r2 := hR.frozen 0; have r3 := hR.frozen 1))
    have hy0 : cnt true ys ≠ 0 := by rw [HC2.out]; intro h; have := congrArg Int.natAbs h; rw [sgn_natAbs] at this; exact hb this
    have eQ : divQ (cnt false xs) (cnt true ys) = sgn true (a / b + 1) := by unfold divQ; rw [if_neg hy0, HC1.out, HC2.out, HDS.out.1, if_pos ⟨HR0.out, by decide⟩]; rfl
    have eR : divR (cnt false xs) (cnt true ys) = sgn true (b - a % b) := by unfold divR; rw [if_neg hy0, HC1.out, HC2.out, HDS.out.2, if_pos ⟨HR0.out, by decide⟩]
    have eC : divC (cnt true ys) = 0 := if_neg hy0
    have HEQ := Lib.hid eQ
    have HER := Lib.hid eR
    have HEC := Lib.hid eC
    clear eQ eR eC hy0
    go_wp2
    have hQ' := (hQ.two (.bool (decide (zq < 0))) (.slice A7 n7 c7)).far2 (show w.heap.size + 1 + 1 ≠ w.heap.size + 1 + 1 + 1 by omega) (x := (.bool (decide (zr < 0)))) (y := (.slice A8 n8 c8))
    have hR' := (hR.far2 (show w.heap.size + 1 + 1 + 1 ≠ w.heap.size + 1 + 1 by omega) (x := (.bool (decide (zq < 0)))) (y := (.slice A7 n7 c7))).two (.bool (decide (zr < 0))) (.slice A8 n8 c8)
    refine bodyPost_ret (v := .tuple #[.agg #[(.bool (decide (zq < 0))), (.slice A7 n7 c7)], .agg #[(.bool (decide (zr < 0))), (.slice A8 n8 c8)], .int .i64 0]) (by simp [results, Tryz.results136, go_sem, hQ'.cell 0, hQ'.cell 1, hR'.cell 0, hR'.cell 1]) rfl ?_
    have hkE := (((hkk.set (p := ⟨w.heap.size + 1 + 1, 0, none⟩) (by simp only; omega) (.bool (decide (zq < 0)))).set (p := ⟨w.heap.size + 1 + 1, 1, none⟩) (by simp only; omega) (.slice A7 n7 c7)).set (p := ⟨w.heap.size + 1 + 1 + 1, 0, none⟩) (by simp only; omega) (.bool (decide (zr < 0)))).set (p := ⟨w.heap.size + 1 + 1 + 1, 1, none⟩) (by simp only; omega) (.slice A8 n8 c8)
    refine ⟨.agg #[.bool (decide (zq < 0)), .slice A7 n7 c7], .agg #[.bool (decide (zr < 0)), .slice A8 n8 c8], ?_, ?_, ?_, hkE⟩
    ·rw [HEC.out]
    ·rw [HEQ.out, HZQ.out]
     exact (hr5.two (x' := .bool (decide (zq < 0))) (y' := .slice A7 n7 c7) hQ rfl rfl rfl).two (hR.far2 (by omega)) rfl rfl rfl
    ·rw [HER.out, HZR.out]
     exact (hr6.two (x' := .bool (decide (zq < 0))) (y' := .slice A7 n7 c7) hQ rfl rfl rfl).two (hR.far2 (by omega)) rfl rfl rfl
  ·
   by_cases hr : a % b = 0
   ·have hn4 : n4 = 0 := by rw [hr, dig_zero] at e4; simpa using e4.symm
    subst hn4
    have HR0 := Lib.hid hr
    clear hr e4
    have a0 := hA.c0
    have a1 := hA.c1
    have b0 := hB.c0
    have b1 := hB.c1
    go_wp2_with fail
    obtain ⟨A5, n5, c5, rfl, -⟩ := hc.open_
    replace hA := hA.drew
    replace hB := hB.drew
    replace hQ := hQ.drew
    replace hR := hR.drew
    replace hc := hc.drew
    replace hd := hd.drew
    replace hkk : Keeps w _ := Below.drew hkk
    obtain ⟨zq, hzq⟩ : ∃ z, sgn true (a / b) = z := ⟨_, rfl⟩
    obtain ⟨zr, hzr⟩ : ∃ z, sgn false (a % b) = z := ⟨_, rfl⟩
    have HZQ := Lib.hid hzq
    have HZR := Lib.hid hzr
    clear hzq hzr
    go_wp2_with fail
    go_region_held3 (fun w' => w'.cell? ⟨w.heap.size, 0, none⟩ = some (.bool true) ∧ w'.cell? ⟨w.heap.size + 1, 0, none⟩ = some (.bool false))
     (first | (with_reducible exact ⟨hA.c0, hB.c0⟩) | (with_reducible exact ⟨(hA.far2 (R := w.heap.size + 1 + 1) (by omega)).c0, (hB.far2 (R := w.heap.size + 1 + 1) (by omega)).c0⟩) | (with_reducible exact ⟨((hA.far2 (R := w.heap.size + 1 + 1) (by omega)).far2 (R := w.heap.size + 1 + 1 + 1) (by omega)).c0, ((hB.far2 (R := w.heap.size + 1 + 1) (by omega)).far2 (R := w.heap.size + 1 + 1 + 1) (by omega)).c0⟩))
     (first
      | (go_at_call_of 90 (Value.slice A5 n5 c5); refine (made_z true _ (a / b) zq _ hc HZQ.out).mono ?_; rintro e w6 ⟨V5, rfl, hr5, hk⟩; replace hA := hA.below hk; replace hB := hB.below hk; replace hQ := hQ.below hk; replace hR := hR.below hk; replace hkk := hkk.trans' hk; replace hd := hd.below hk; obtain ⟨A7, n7, c7, rfl, -⟩ := hr5.open_)
      | (go_at_call 90; refine (made_z false _ (a % b) zr _ hd HZR.out).mono ?_; rintro e w7 ⟨V6, rfl, hr6, hk⟩; replace hA := hA.below hk; replace hB := hB.below hk; replace hQ := hQ.below hk; replace hR := hR.below hk; replace hkk := hkk.trans' hk; replace hr5 := hr5.below hk; obtain ⟨A8, n8, c8, rfl, -⟩ := hr6.open_; have q0 := hQ.c0; have q1 := hQ.c1; have q2 := hQ.frozen 0; have q3 := hQ.frozen 1; have r0 := hR.c0; have r1 := hR.c1; have r2 := hR.frozen 0; have r3 := hR.frozen 1))
    have hy0 : cnt false ys ≠ 0 := by rw [HC2.out]; intro h; have := congrArg Int.natAbs h; rw [sgn_natAbs] at this; exact hb this
    have eQ : divQ (cnt true xs) (cnt false ys) = sgn true (a / b) := by unfold divQ; rw [if_neg hy0, HC1.out, HC2.out, HDS.out.1, if_neg (fun h => h.1 HR0.out)]; rfl
    have eR : divR (cnt true xs) (cnt false ys) = sgn false (a % b) := by unfold divR; rw [if_neg hy0, HC1.out, HC2.out, HDS.out.2, if_neg (fun h => h.1 HR0.out)]
    have eC : divC (cnt false ys) = 0 := if_neg hy0
    have HEQ := Lib.hid eQ
    have HER := Lib.hid eR
    have HEC := Lib.hid eC
    clear eQ eR eC hy0
    go_wp2
    have hQ' := (hQ.two (.bool (decide (zq < 0))) (.slice A7 n7 c7)).far2 (show w.heap.size + 1 + 1 ≠ w.heap.size + 1 + 1 + 1 by omega) (x := (.bool (decide (zr < 0)))) (y := (.slice A8 n8 c8))
    have hR' := (hR.far2 (show w.heap.size + 1 + 1 + 1 ≠ w.heap.size + 1 + 1 by omega) (x := (.bool (decide (zq < 0)))) (y := (.slice A7 n7 c7))).two (.bool (decide (zr < 0))) (.slice A8 n8 c8)
    refine bodyPost_ret (v := .tuple #[.agg #[(.bool (decide (zq < 0))), (.slice A7 n7 c7)], .agg #[(.bool (decide (zr < 0))), (.slice A8 n8 c8)], .int .i64 0]) (by simp [results, Tryz.results136, go_sem, hQ'.cell 0, hQ'.cell 1, hR'.cell 0, hR'.cell 1]) rfl ?_
    have hkE := (((hkk.set (p := ⟨w.heap.size + 1 + 1, 0, none⟩) (by simp only; omega) (.bool (decide (zq < 0)))).set (p := ⟨w.heap.size + 1 + 1, 1, none⟩) (by simp only; omega) (.slice A7 n7 c7)).set (p := ⟨w.heap.size + 1 + 1 + 1, 0, none⟩) (by simp only; omega) (.bool (decide (zr < 0)))).set (p := ⟨w.heap.size + 1 + 1 + 1, 1, none⟩) (by simp only; omega) (.slice A8 n8 c8)
    refine ⟨.agg #[.bool (decide (zq < 0)), .slice A7 n7 c7], .agg #[.bool (decide (zr < 0)), .slice A8 n8 c8], ?_, ?_, ?_, hkE⟩
    ·rw [HEC.out]
    ·rw [HEQ.out, HZQ.out]
     exact (hr5.two (x' := .bool (decide (zq < 0))) (y' := .slice A7 n7 c7) hQ rfl rfl rfl).two (hR.far2 (by omega)) rfl rfl rfl
    ·rw [HER.out, HZR.out]
     exact (hr6.two (x' := .bool (decide (zq < 0))) (y' := .slice A7 n7 c7) hQ rfl rfl rfl).two (hR.far2 (by omega)) rfl rfl rfl
   ·have hn4 : 0 < n4 := by have := dig_length_pos.2 hr; omega
    have HR0 := Lib.hid hr
    clear hr e4
    have a0 := hA.c0
    have a1 := hA.c1
    have b0 := hB.c0
    have b1 := hB.c1
    go_wp2_with fail
    have ho1 := Own.new w4 109 (u32s [1])
    have hk9 := box2 w4 (.cells (u32s [1]).toArray 109)
    have hu1' : U32 (w4.alloc (.cells (u32s [1]).toArray 109)) (.slice (some ⟨w4.heap.size, 0, none⟩) 1 1) (dig 1) := by rw [dig_small (by omega) (by omega)]; exact U32.mk (c := 1) ho1.row (by simp) (by simp [maxLen]) (by intro e; cases e)
    refine (plus_d _ _ (a / b) 1 _ (hc.below hk9) hu1' (by omega) (by rw [dig_small (by omega) (by omega)]; simp)).mono ?_
    rintro e w5 ⟨c9, rfl, hc9, hk⟩
    replace hk := hk9.trans' hk
    replace hA := hA.below hk
    replace hB := hB.below hk
    replace hQ := hQ.below hk
    replace hR := hR.below hk
    replace hkk := hkk.trans' hk
    replace hu2 := hu2.below hk
    replace hd := hd.below hk
    clear hc ho1 hk9 hu1' hk a0 a1 b0 b1
    have hc := hc9
    go_wp2_with fail
    refine (minus_d _ _ b (a % b) _ hu2 hd (by omega) (by omega)).mono ?_
    rintro e w6 ⟨d9, rfl, hd9, hk⟩
    replace hA := hA.below hk
    replace hB := hB.below hk
    replace hQ := hQ.below hk
    replace hR := hR.below hk
    replace hkk := hkk.trans' hk
    replace hc := hc.below hk
    clear hd hc9
    have hd := hd9
    have a0 := hA.c0
    have a1 := hA.c1
    have b0 := hB.c0
    have b1 := hB.c1
    go_wp2_with fail
    obtain ⟨A5, n5, c5, rfl, -⟩ := hc.open_
    replace hA := hA.drew
    replace hB := hB.drew
    replace hQ := hQ.drew
    replace hR := hR.drew
    replace hc := hc.drew
    replace hd := hd.drew
    replace hkk : Keeps w _ := Below.drew hkk
    obtain ⟨zq, hzq⟩ : ∃ z, sgn true (a / b + 1) = z := ⟨_, rfl⟩
    obtain ⟨zr, hzr⟩ : ∃ z, sgn false (b - a % b) = z := ⟨_, rfl⟩
    have HZQ := Lib.hid hzq
    have HZR := Lib.hid hzr
    clear hzq hzr
    go_wp2_with fail
    go_region_held3 (fun w' => w'.cell? ⟨w.heap.size, 0, none⟩ = some (.bool true) ∧ w'.cell? ⟨w.heap.size + 1, 0, none⟩ = some (.bool false))
     (first | (with_reducible exact ⟨hA.c0, hB.c0⟩) | (with_reducible exact ⟨(hA.far2 (R := w.heap.size + 1 + 1) (by omega)).c0, (hB.far2 (R := w.heap.size + 1 + 1) (by omega)).c0⟩) | (with_reducible exact ⟨((hA.far2 (R := w.heap.size + 1 + 1) (by omega)).far2 (R := w.heap.size + 1 + 1 + 1) (by omega)).c0, ((hB.far2 (R := w.heap.size + 1 + 1) (by omega)).far2 (R := w.heap.size + 1 + 1 + 1) (by omega)).c0⟩))
     (first
      | (go_at_call_of 90 (Value.slice A5 n5 c5); refine (made_z true _ (a / b + 1) zq _ hc HZQ.out).mono ?_; rintro e w6 ⟨V5, rfl, hr5, hk⟩; replace hA := hA.below hk; replace hB := hB.below hk; replace hQ := hQ.below hk; replace hR := hR.below hk; replace hkk := hkk.trans' hk; replace hd := hd.below hk; obtain ⟨A7, n7, c7, rfl, -⟩ := hr5.open_)
      | (go_at_call 90; refine (made_z false _ (b - a % b) zr _ hd HZR.out).mono ?_; rintro e w7 ⟨V6, rfl, hr6, hk⟩; replace hA := hA.below hk; replace hB := hB.below hk; replace hQ := hQ.below hk; replace hR := hR.below hk; replace hkk := hkk.trans' hk; replace hr5 := hr5.below hk; obtain ⟨A8, n8, c8, rfl, -⟩ := hr6.open_; have q0 := hQ.c0; have q1 := hQ.c1; have q2 := hQ.frozen 0; have q3 := hQ.frozen 1; have r0 := hR.c0; have r1 := hR.c1; have r2 := hR.frozen 0; have r3 := hR.frozen 1))
    have hy0 : cnt false ys ≠ 0 := by rw [HC2.out]; intro h; have := congrArg Int.natAbs h; rw [sgn_natAbs] at this; exact hb this
    have eQ : divQ (cnt true xs) (cnt false ys) = sgn true (a / b + 1) := by unfold divQ; rw [if_neg hy0, HC1.out, HC2.out, HDS.out.1, if_pos ⟨HR0.out, by decide⟩]; rfl
    have eR : divR (cnt true xs) (cnt false ys) = sgn false (b - a % b) := by unfold divR; rw [if_neg hy0, HC1.out, HC2.out, HDS.out.2, if_pos ⟨HR0.out, by decide⟩]
    have eC : divC (cnt false ys) = 0 := if_neg hy0
    have HEQ := Lib.hid eQ
    have HER := Lib.hid eR
    have HEC := Lib.hid eC
    clear eQ eR eC hy0
    go_wp2
    have hQ' := (hQ.two (.bool (decide (zq < 0))) (.slice A7 n7 c7)).far2 (show w.heap.size + 1 + 1 ≠ w.heap.size + 1 + 1 + 1 by omega) (x := (.bool (decide (zr < 0)))) (y := (.slice A8 n8 c8))
    have hR' := (hR.far2 (show w.heap.size + 1 + 1 + 1 ≠ w.heap.size + 1 + 1 by omega) (x := (.bool (decide (zq < 0)))) (y := (.slice A7 n7 c7))).two (.bool (decide (zr < 0))) (.slice A8 n8 c8)
    refine bodyPost_ret (v := .tuple #[.agg #[(.bool (decide (zq < 0))), (.slice A7 n7 c7)], .agg #[(.bool (decide (zr < 0))), (.slice A8 n8 c8)], .int .i64 0]) (by simp [results, Tryz.results136, go_sem, hQ'.cell 0, hQ'.cell 1, hR'.cell 0, hR'.cell 1]) rfl ?_
    have hkE := (((hkk.set (p := ⟨w.heap.size + 1 + 1, 0, none⟩) (by simp only; omega) (.bool (decide (zq < 0)))).set (p := ⟨w.heap.size + 1 + 1, 1, none⟩) (by simp only; omega) (.slice A7 n7 c7)).set (p := ⟨w.heap.size + 1 + 1 + 1, 0, none⟩) (by simp only; omega) (.bool (decide (zr < 0)))).set (p := ⟨w.heap.size + 1 + 1 + 1, 1, none⟩) (by simp only; omega) (.slice A8 n8 c8)
    refine ⟨.agg #[.bool (decide (zq < 0)), .slice A7 n7 c7], .agg #[.bool (decide (zr < 0)), .slice A8 n8 c8], ?_, ?_, ?_, hkE⟩
    ·rw [HEC.out]
    ·rw [HEQ.out, HZQ.out]
     exact (hr5.two (x' := .bool (decide (zq < 0))) (y' := .slice A7 n7 c7) hQ rfl rfl rfl).two (hR.far2 (by omega)) rfl rfl rfl
    ·rw [HER.out, HZR.out]
     exact (hr6.two (x' := .bool (decide (zq < 0))) (y' := .slice A7 n7 c7) hQ rfl rfl rfl).two (hR.far2 (by omega)) rfl rfl rfl
  ·
   by_cases hr : a % b = 0
   ·have hn4 : n4 = 0 := by rw [hr, dig_zero] at e4; simpa using e4.symm
    subst hn4
    clear hr e4
    have a0 := hA.c0
    have a1 := hA.c1
    have b0 := hB.c0
    have b1 := hB.c1
    go_wp2_with fail
    obtain ⟨A5, n5, c5, rfl, -⟩ := hc.open_
    replace hA := hA.drew
    replace hB := hB.drew
    replace hQ := hQ.drew
    replace hR := hR.drew
    replace hc := hc.drew
    replace hd := hd.drew
    replace hkk : Keeps w _ := Below.drew hkk
    obtain ⟨zq, hzq⟩ : ∃ z, sgn false (a / b) = z := ⟨_, rfl⟩
    obtain ⟨zr, hzr⟩ : ∃ z, sgn true (a % b) = z := ⟨_, rfl⟩
    have HZQ := Lib.hid hzq
    have HZR := Lib.hid hzr
    clear hzq hzr
    go_wp2_with fail
    go_region_held3 (fun w' => w'.cell? ⟨w.heap.size, 0, none⟩ = some (.bool true) ∧ w'.cell? ⟨w.heap.size + 1, 0, none⟩ = some (.bool true))
     (first | (with_reducible exact ⟨hA.c0, hB.c0⟩) | (with_reducible exact ⟨(hA.far2 (R := w.heap.size + 1 + 1) (by omega)).c0, (hB.far2 (R := w.heap.size + 1 + 1) (by omega)).c0⟩) | (with_reducible exact ⟨((hA.far2 (R := w.heap.size + 1 + 1) (by omega)).far2 (R := w.heap.size + 1 + 1 + 1) (by omega)).c0, ((hB.far2 (R := w.heap.size + 1 + 1) (by omega)).far2 (R := w.heap.size + 1 + 1 + 1) (by omega)).c0⟩))
     (first
      | (go_at_call_of 90 (Value.slice A5 n5 c5); refine (made_z false _ (a / b) zq _ hc HZQ.out).mono ?_; rintro e w6 ⟨V5, rfl, hr5, hk⟩; replace hA := hA.below hk; replace hB := hB.below hk; replace hQ := hQ.below hk; replace hR := hR.below hk; replace hkk := hkk.trans' hk; replace hd := hd.below hk; obtain ⟨A7, n7, c7, rfl, -⟩ := hr5.open_)
      | (go_at_call 90; refine (made_z true _ (a % b) zr _ hd HZR.out).mono ?_; rintro e w7 ⟨V6, rfl, hr6, hk⟩; replace hA := hA.below hk; replace hB := hB.below hk; replace hQ := hQ.below hk; replace hR := hR.below hk; replace hkk := hkk.trans' hk; replace hr5 := hr5.below hk; obtain ⟨A8, n8, c8, rfl, -⟩ := hr6.open_; have q0 := hQ.c0; have q1 := hQ.c1; have q2 := hQ.frozen 0; have q3 := hQ.frozen 1; have r0 := hR.c0; have r1 := hR.c1; have r2 := hR.frozen 0; have r3 := hR.frozen 1))
    have hy0 : cnt true ys ≠ 0 := by rw [HC2.out]; intro h; have := congrArg Int.natAbs h; rw [sgn_natAbs] at this; exact hb this
    have eQ : divQ (cnt true xs) (cnt true ys) = sgn false (a / b) := by unfold divQ; rw [if_neg hy0, HC1.out, HC2.out, HDS.out.1, if_neg (fun h => h.2 rfl)]; rfl
    have eR : divR (cnt true xs) (cnt true ys) = sgn true (a % b) := by unfold divR; rw [if_neg hy0, HC1.out, HC2.out, HDS.out.2, if_neg (fun h => h.2 rfl)]
    have eC : divC (cnt true ys) = 0 := if_neg hy0
    have HEQ := Lib.hid eQ
    have HER := Lib.hid eR
    have HEC := Lib.hid eC
    clear eQ eR eC hy0
    go_wp2
    have hQ' := (hQ.two (.bool (decide (zq < 0))) (.slice A7 n7 c7)).far2 (show w.heap.size + 1 + 1 ≠ w.heap.size + 1 + 1 + 1 by omega) (x := (.bool (decide (zr < 0)))) (y := (.slice A8 n8 c8))
    have hR' := (hR.far2 (show w.heap.size + 1 + 1 + 1 ≠ w.heap.size + 1 + 1 by omega) (x := (.bool (decide (zq < 0)))) (y := (.slice A7 n7 c7))).two (.bool (decide (zr < 0))) (.slice A8 n8 c8)
    refine bodyPost_ret (v := .tuple #[.agg #[(.bool (decide (zq < 0))), (.slice A7 n7 c7)], .agg #[(.bool (decide (zr < 0))), (.slice A8 n8 c8)], .int .i64 0]) (by simp [results, Tryz.results136, go_sem, hQ'.cell 0, hQ'.cell 1, hR'.cell 0, hR'.cell 1]) rfl ?_
    have hkE := (((hkk.set (p := ⟨w.heap.size + 1 + 1, 0, none⟩) (by simp only; omega) (.bool (decide (zq < 0)))).set (p := ⟨w.heap.size + 1 + 1, 1, none⟩) (by simp only; omega) (.slice A7 n7 c7)).set (p := ⟨w.heap.size + 1 + 1 + 1, 0, none⟩) (by simp only; omega) (.bool (decide (zr < 0)))).set (p := ⟨w.heap.size + 1 + 1 + 1, 1, none⟩) (by simp only; omega) (.slice A8 n8 c8)
    refine ⟨.agg #[.bool (decide (zq < 0)), .slice A7 n7 c7], .agg #[.bool (decide (zr < 0)), .slice A8 n8 c8], ?_, ?_, ?_, hkE⟩
    ·rw [HEC.out]
    ·rw [HEQ.out, HZQ.out]
     exact (hr5.two (x' := .bool (decide (zq < 0))) (y' := .slice A7 n7 c7) hQ rfl rfl rfl).two (hR.far2 (by omega)) rfl rfl rfl
    ·rw [HER.out, HZR.out]
     exact (hr6.two (x' := .bool (decide (zq < 0))) (y' := .slice A7 n7 c7) hQ rfl rfl rfl).two (hR.far2 (by omega)) rfl rfl rfl
   ·have hn4 : 0 < n4 := by have := dig_length_pos.2 hr; omega
    clear hr e4
    have a0 := hA.c0
    have a1 := hA.c1
    have b0 := hB.c0
    have b1 := hB.c1
    go_wp2_with fail
    obtain ⟨A5, n5, c5, rfl, -⟩ := hc.open_
    replace hA := hA.drew
    replace hB := hB.drew
    replace hQ := hQ.drew
    replace hR := hR.drew
    replace hc := hc.drew
    replace hd := hd.drew
    replace hkk : Keeps w _ := Below.drew hkk
    obtain ⟨zq, hzq⟩ : ∃ z, sgn false (a / b) = z := ⟨_, rfl⟩
    obtain ⟨zr, hzr⟩ : ∃ z, sgn true (a % b) = z := ⟨_, rfl⟩
    have HZQ := Lib.hid hzq
    have HZR := Lib.hid hzr
    clear hzq hzr
    go_wp2_with fail
    go_region_held3 (fun w' => w'.cell? ⟨w.heap.size, 0, none⟩ = some (.bool true) ∧ w'.cell? ⟨w.heap.size + 1, 0, none⟩ = some (.bool true))
     (first | (with_reducible exact ⟨hA.c0, hB.c0⟩) | (with_reducible exact ⟨(hA.far2 (R := w.heap.size + 1 + 1) (by omega)).c0, (hB.far2 (R := w.heap.size + 1 + 1) (by omega)).c0⟩) | (with_reducible exact ⟨((hA.far2 (R := w.heap.size + 1 + 1) (by omega)).far2 (R := w.heap.size + 1 + 1 + 1) (by omega)).c0, ((hB.far2 (R := w.heap.size + 1 + 1) (by omega)).far2 (R := w.heap.size + 1 + 1 + 1) (by omega)).c0⟩))
     (first
      | (go_at_call_of 90 (Value.slice A5 n5 c5); refine (made_z false _ (a / b) zq _ hc HZQ.out).mono ?_; rintro e w6 ⟨V5, rfl, hr5, hk⟩; replace hA := hA.below hk; replace hB := hB.below hk; replace hQ := hQ.below hk; replace hR := hR.below hk; replace hkk := hkk.trans' hk; replace hd := hd.below hk; obtain ⟨A7, n7, c7, rfl, -⟩ := hr5.open_)
      | (go_at_call 90; refine (made_z true _ (a % b) zr _ hd HZR.out).mono ?_; rintro e w7 ⟨V6, rfl, hr6, hk⟩; replace hA := hA.below hk; replace hB := hB.below hk; replace hQ := hQ.below hk; replace hR := hR.below hk; replace hkk := hkk.trans' hk; replace hr5 := hr5.below hk; obtain ⟨A8, n8, c8, rfl, -⟩ := hr6.open_; have q0 := hQ.c0; have q1 := hQ.c1; have q2 := hQ.frozen 0; have q3 := hQ.frozen 1; have r0 := hR.c0; have r1 := hR.c1; have r2 := hR.frozen 0; have r3 := hR.frozen 1))
    have hy0 : cnt true ys ≠ 0 := by rw [HC2.out]; intro h; have := congrArg Int.natAbs h; rw [sgn_natAbs] at this; exact hb this
    have eQ : divQ (cnt true xs) (cnt true ys) = sgn false (a / b) := by unfold divQ; rw [if_neg hy0, HC1.out, HC2.out, HDS.out.1, if_neg (fun h => h.2 rfl)]; rfl
    have eR : divR (cnt true xs) (cnt true ys) = sgn true (a % b) := by unfold divR; rw [if_neg hy0, HC1.out, HC2.out, HDS.out.2, if_neg (fun h => h.2 rfl)]
    have eC : divC (cnt true ys) = 0 := if_neg hy0
    have HEQ := Lib.hid eQ
    have HER := Lib.hid eR
    have HEC := Lib.hid eC
    clear eQ eR eC hy0
    go_wp2
    have hQ' := (hQ.two (.bool (decide (zq < 0))) (.slice A7 n7 c7)).far2 (show w.heap.size + 1 + 1 ≠ w.heap.size + 1 + 1 + 1 by omega) (x := (.bool (decide (zr < 0)))) (y := (.slice A8 n8 c8))
    have hR' := (hR.far2 (show w.heap.size + 1 + 1 + 1 ≠ w.heap.size + 1 + 1 by omega) (x := (.bool (decide (zq < 0)))) (y := (.slice A7 n7 c7))).two (.bool (decide (zr < 0))) (.slice A8 n8 c8)
    refine bodyPost_ret (v := .tuple #[.agg #[(.bool (decide (zq < 0))), (.slice A7 n7 c7)], .agg #[(.bool (decide (zr < 0))), (.slice A8 n8 c8)], .int .i64 0]) (by simp [results, Tryz.results136, go_sem, hQ'.cell 0, hQ'.cell 1, hR'.cell 0, hR'.cell 1]) rfl ?_
    have hkE := (((hkk.set (p := ⟨w.heap.size + 1 + 1, 0, none⟩) (by simp only; omega) (.bool (decide (zq < 0)))).set (p := ⟨w.heap.size + 1 + 1, 1, none⟩) (by simp only; omega) (.slice A7 n7 c7)).set (p := ⟨w.heap.size + 1 + 1 + 1, 0, none⟩) (by simp only; omega) (.bool (decide (zr < 0)))).set (p := ⟨w.heap.size + 1 + 1 + 1, 1, none⟩) (by simp only; omega) (.slice A8 n8 c8)
    refine ⟨.agg #[.bool (decide (zq < 0)), .slice A7 n7 c7], .agg #[.bool (decide (zr < 0)), .slice A8 n8 c8], ?_, ?_, ?_, hkE⟩
    ·rw [HEC.out]
    ·rw [HEQ.out, HZQ.out]
     exact (hr5.two (x' := .bool (decide (zq < 0))) (y' := .slice A7 n7 c7) hQ rfl rfl rfl).two (hR.far2 (by omega)) rfl rfl rfl
    ·rw [HER.out, HZR.out]
     exact (hr6.two (x' := .bool (decide (zq < 0))) (y' := .slice A7 n7 c7) hQ rfl rfl rfl).two (hR.far2 (by omega)) rfl rfl rfl
end Go.Proofs.YtgcigdahjabimaaGreatDoor
