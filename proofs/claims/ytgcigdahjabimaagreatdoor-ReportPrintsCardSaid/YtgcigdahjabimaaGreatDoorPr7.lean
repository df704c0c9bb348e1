/- The walks of the reference's Sub, Compare, and of Of and Compare. -/
import Derived.Test.YtgcigdahjabimaaGreatDoorPr6
namespace Go.Proofs.YtgcigdahjabimaaGreatDoor
open Go.RowKit Go.Shelf

set_option maxRecDepth 100000 in
set_option maxHeartbeats 1000000 in
theorem rsub_any (n1 n2 : Bool) (xs ys : List Nat) (V1 V2 : Value) (w : World) (h1 : IntArg w V1 n1 xs) (h2 : IntArg w V2 n2 ys) (hm1 : xs.length ≤ 1000000) (hm2 : ys.length ≤ 1000000) :
 Calls Tryz.prog 107 #[V1, V2] w fun e w' => ∃ V, e = .returned V ∧ IntRep w' V (cnt n1 xs - cnt n2 ys) ∧ Keeps w w' := by
 obtain ⟨v1, rfl, hv1⟩ := h1
 obtain ⟨v2, rfl, hv2⟩ := h2
 have hml2 := mag_length n2 ys
 have hkk := keep3 w (.cells #[.bool n1, v1] 29) (.cells #[.bool n2, v2] 29) (.cells #[.bool false, .slice none 0 0] 29)
 have hG2 := Lib.hid (fun W (hW : IntArg W (.agg #[.bool n2, v2]) n2 ys) => rneg_any n2 ys (.agg #[.bool n2, v2]) W hW hm2)
 have hR := own3 w (.cells #[.bool n1, v1] 29) (.cells #[.bool n2, v2] 29) 29 [.bool false, .slice none 0 0]
 have hB := (own2 w (.cells #[.bool n1, v1] 29) 29 [.bool n2, v2]).alloc (.cells #[.bool false, .slice none 0 0] 29)
 have hA := ((Own.new w 29 [.bool n1, v1]).alloc (.cells #[.bool n2, v2] 29)).alloc (.cells #[.bool false, .slice none 0 0] 29)
 go_enter Tryz.func107, Tryz.ntmps107
 go_wp2_with fail
 have g1 := hv1.below hkk
 have g2 := hv2.below hkk
 generalize ((w.alloc (.cells #[.bool n1, v1] 29)).alloc (.cells #[.bool n2, v2] 29)).alloc (.cells #[.bool false, .slice none 0 0] 29) = W at *
 have a0 := hA.c0
 have a1 := hA.c1
 have b0 := hB.c0
 have b1 := hB.c1
 go_region_held3 (fun w' => w'.cell? ⟨w.heap.size, 0, none⟩ = some (.bool n1) ∧ w'.cell? ⟨w.heap.size, 1, none⟩ = some v1 ∧ w'.cell? ⟨w.heap.size + 1, 0, none⟩ = some (.bool n2) ∧ w'.cell? ⟨w.heap.size + 1, 1, none⟩ = some v2)
  (first | exact ⟨a0, a1, b0, b1⟩ | exact ⟨hA1.c0, hA1.c1, hB1.c0, hB1.c1⟩ | exact ⟨hA3.c0, hA3.c1, hB3.c0, hB3.c1⟩ | exact ⟨(hA3.far2 (by omega)).c0, (hA3.far2 (by omega)).c1, (hB3.far2 (by omega)).c0, (hB3.far2 (by omega)).c1⟩)
  (first
   | (go_at_call 97; refine (hG2.out W.drew ⟨v2, rfl, g2⟩).mono ?_; rintro e w1 ⟨U1, rfl, hr1, hk1⟩; have hA1 := hA.drew.below hk1; have hB1 := hB.drew.below hk1)
   | (go_at_call 53; refine (radd_any n1 _ xs _ _ U1 w1 ⟨v1, rfl, U32.below (w := W.drew) g1 hk1⟩ hr1.arg hm1 (by rw [Int.natAbs_neg, cnt_abs]; omega)).mono ?_; rintro e w3 ⟨V3, rfl, hr3, hk3⟩; rw [cnt_rep] at hr3; obtain ⟨A3, n3, c3, rfl, hv3⟩ := hr3.open_; have hA3 := hA1.below hk3; have hB3 := hB1.below hk3; have hR3 := (hR.drew.below hk1).below hk3; have hkR := (Keeps.trans' (Below.drew hkk) hk1).trans' hk3; have r0 := hR3.c0; have r1 := hR3.c1; have f0 := hR3.frozen 0; have f1 := hR3.frozen 1))
 obtain ⟨z, hz⟩ : ∃ z, cnt n1 xs + -cnt n2 ys = z := ⟨_, rfl⟩
 rw [hz] at hr3 hv3
 simp only [hz]
 have HZ := Lib.hid hz
 clear hz
 go_wp2
 have hR4 := hR3.two (.bool (decide (z < 0))) (.slice A3 n3 c3)
 refine bodyPost_ret (v := .agg #[.bool (decide (z < 0)), .slice A3 n3 c3]) (by simp [results, Tryz.results107, go_sem, hR4.c0, hR4.c1]) rfl ?_
 refine ⟨_, rfl, ?_, (hkR.set (by simp; omega) _).set (by simp; omega) _⟩
 rw [show cnt n1 xs - cnt n2 ys = z by rw [← HZ.out]; omega]
 exact hr3.two hR3 rfl rfl rfl

theorem rep_sub_length (a b : Int) : (dig (a - b).natAbs).length ≤ max (dig a.natAbs).length (dig b.natAbs).length + 1 := by
 have h1 := dig_length_add a.natAbs b.natAbs
 have h2 := dig_length_mono (show (a - b).natAbs ≤ a.natAbs + b.natAbs by omega)
 omega
theorem rep_add_length (a b : Int) : (dig (a + b).natAbs).length ≤ max (dig a.natAbs).length (dig b.natAbs).length + 1 := by
 have h1 := dig_length_add a.natAbs b.natAbs
 have h2 := dig_length_mono (show (a + b).natAbs ≤ a.natAbs + b.natAbs by omega)
 omega
theorem cnt_length (neg : Bool) (xs : List Nat) : (dig (cnt neg xs).natAbs).length ≤ xs.length := by rw [cnt_abs]; exact mag_length neg xs

set_option maxRecDepth 100000 in
set_option maxHeartbeats 400000 in
theorem rcompare_any (n1 n2 : Bool) (xs ys : List Nat) (V1 V2 : Value) (w : World) (h1 : IntArg w V1 n1 xs) (h2 : IntArg w V2 n2 ys) (hm1 : xs.length ≤ 900000) (hm2 : ys.length ≤ 900000) :
 Calls Tryz.prog 66 #[V1, V2] w fun e w' => e = .returned (.int .i64 (cnt n1 xs - cnt n2 ys).sign) ∧ Keeps w w' := by
 obtain ⟨v1, rfl, hv1⟩ := h1
 obtain ⟨v2, rfl, hv2⟩ := h2
 have hl := rep_sub_length (cnt n1 xs) (cnt n2 ys)
 have hl1 := cnt_length n1 xs
 have hl2 := cnt_length n2 ys
 have hkk := keep2 w (.cells #[.bool n1, v1] 29) (.cells #[.bool n2, v2] 29)
 have hG := Lib.hid (rsub_any n1 n2 xs ys (.agg #[.bool n1, v1]) (.agg #[.bool n2, v2]) _ ⟨v1, rfl, hv1.below hkk⟩ ⟨v2, rfl, hv2.below hkk⟩ (by omega) (by omega))
 go_enter Tryz.func66, Tryz.ntmps66
 go_wp2_with fail
 refine hG.out.mono ?_
 rintro e w1 ⟨V3, rfl, hr3, hk1⟩
 go_wp2_with fail
 refine (rsign_any _ _ _ _ hr3.arg (by omega)).mono ?_
 rintro e w2 ⟨rfl, hk2⟩
 rw [cnt_rep]
 go_wp2
 go_ret
 exact ⟨rfl, (hkk.trans' hk1).trans' hk2⟩

theorem sign_cases (x : Int) : (x < 0 ∧ x.sign = -1) ∨ (x = 0 ∧ x.sign = 0) ∨ (0 < x ∧ x.sign = 1) := by
 rcases Int.lt_trichotomy x 0 with h | h | h
 ·exact .inl ⟨h, Int.sign_eq_neg_one_of_neg h⟩
 ·exact .inr (.inl ⟨h, by rw [h]; rfl⟩)
 ·exact .inr (.inr ⟨h, Int.sign_eq_one_of_pos h⟩)
theorem cmp_diff (x y : Int) (h : x.sign ≠ y.sign) : (x.sign - y.sign).sign = (x - y).sign := by
 rcases sign_cases x with ⟨h1, e1⟩ | ⟨h1, e1⟩ | ⟨h1, e1⟩ <;> rcases sign_cases y with ⟨h2, e2⟩ | ⟨h2, e2⟩ | ⟨h2, e2⟩ <;> rcases sign_cases (x - y) with ⟨h3, e3⟩ | ⟨h3, e3⟩ | ⟨h3, e3⟩ <;>
  rw [e1, e2] at h <;> rw [e1, e2, e3] <;> first | rfl | (exfalso; omega)
theorem cmp_same (n1 n2 : Bool) (a b : Nat) (h : (sgn n1 a).sign = (sgn n2 b).sign) : (sgn n1 a - sgn n2 b).sign = if n1 then -((a : Int) - b).sign else ((a : Int) - b).sign := by
 rcases sign_cases (sgn n1 a) with ⟨h1, e1⟩ | ⟨h1, e1⟩ | ⟨h1, e1⟩ <;> rcases sign_cases (sgn n2 b) with ⟨h2, e2⟩ | ⟨h2, e2⟩ | ⟨h2, e2⟩ <;>
  rw [e1, e2] at h <;> (try (exfalso; omega)) <;> cases n1 <;> cases n2 <;> simp [sgn] at h1 h2 ⊢ <;>
  first
  | omega
  | (rw [show (-(a : Int) + (b : Int)) = -((a : Int) - b) by omega, Int.sign_neg])
  | (subst h1; subst h2; rfl)
  | skip
theorem sign_bd (x : Int) : -1 ≤ x.sign ∧ x.sign ≤ 1 := by
 rcases sign_cases x with ⟨-, e⟩ | ⟨-, e⟩ | ⟨-, e⟩ <;> rw [e] <;> omega

set_option maxRecDepth 100000 in
set_option maxHeartbeats 400000 in
theorem compareI_any (n1 n2 : Bool) (xs ys : List Nat) (V1 V2 : Value) (w : World) (h1 : IntArg w V1 n1 xs) (h2 : IntArg w V2 n2 ys) (hm1 : xs.length ≤ 1000000) (hm2 : ys.length ≤ 1000000) :
 Calls Tryz.prog 87 #[V1, V2] w fun e w' => e = .returned (.int .i64 (cnt n1 xs - cnt n2 ys).sign) ∧ Keeps w w' := by
 obtain ⟨v1, rfl, hv1⟩ := h1
 obtain ⟨v2, rfl, hv2⟩ := h2
 have hkk := keep2 w (.cells #[.bool n1, v1] 29) (.cells #[.bool n2, v2] 29)
 have hA := (Own.new w 29 [.bool n1, v1]).alloc (.cells #[.bool n2, v2] 29)
 have hB := own2 w (.cells #[.bool n1, v1] 29) 29 [.bool n2, v2]
 have hS1 := Lib.hid (fun W (hW : IntArg W (.agg #[.bool n1, v1]) n1 xs) => sign_any n1 xs (.agg #[.bool n1, v1]) W hW hm1)
 have hS2 := Lib.hid (fun W (hW : IntArg W (.agg #[.bool n2, v2]) n2 ys) => sign_any n2 ys (.agg #[.bool n2, v2]) W hW hm2)
 have hG1 := Lib.hid (fun W (hW : IntArg W (.agg #[.bool n1, v1]) n1 xs) => groups_any n1 xs (.agg #[.bool n1, v1]) W hW hm1)
 have hG2 := Lib.hid (fun W (hW : IntArg W (.agg #[.bool n2, v2]) n2 ys) => groups_any n2 ys (.agg #[.bool n2, v2]) W hW hm2)
 go_enter Tryz.func87, Tryz.ntmps87
 go_wp2_with fail
 have g1 := hv1.below hkk
 have g2 := hv2.below hkk
 generalize (w.alloc (.cells #[.bool n1, v1] 29)).alloc (.cells #[.bool n2, v2] 29) = W at *
 have a0 := hA.c0
 have a1 := hA.c1
 have b0 := hB.c0
 have b1 := hB.c1
 go_region_held3 (fun w' => w'.cell? ⟨w.heap.size, 0, none⟩ = some (.bool n1) ∧ w'.cell? ⟨w.heap.size, 1, none⟩ = some v1 ∧ w'.cell? ⟨w.heap.size + 1, 0, none⟩ = some (.bool n2) ∧ w'.cell? ⟨w.heap.size + 1, 1, none⟩ = some v2)
  (first | exact ⟨a0, a1, b0, b1⟩ | exact ⟨hA1.c0, hA1.c1, hB1.c0, hB1.c1⟩ | exact ⟨hA2.c0, hA2.c1, hB2.c0, hB2.c1⟩)
  (first
   | (go_at_call_of 86 (Value.agg #[Value.bool n1, v1]); refine (hS1.out W.drew ⟨v1, rfl, g1⟩).mono ?_; rintro e w1 ⟨rfl, hk1⟩; have hA1 := hA.drew.below hk1; have hB1 := hB.drew.below hk1)
   | (go_at_call_of 86 (Value.agg #[Value.bool n2, v2]); refine (hS2.out w1 ⟨v2, rfl, U32.below (w := W.drew) g2 hk1⟩).mono ?_; rintro e w2 ⟨rfl, hk2⟩; have hA2 := hA1.below hk2; have hB2 := hB1.below hk2))
 have hk12 := (Keeps.trans' (Below.drew hkk) hk1).trans' hk2
 have g1' : U32 w2 v1 xs := (U32.below (w := W.drew) g1 hk1).below hk2
 have g2' : U32 w2 v2 ys := (U32.below (w := W.drew) g2 hk1).below hk2
 have hm1' := mag_length n1 xs
 have hm2' := mag_length n2 ys
 by_cases hne : (cnt n1 xs).sign = (cnt n2 ys).sign
 ·have hb : ((cnt n1 xs).sign != (cnt n2 ys).sign) = false := by simp [hne]
  have HN := Lib.hid hne
  clear hne
  go_wp2_with fail
  have a20 := hA2.c0
  have a21 := hA2.c1
  have b20 := hB2.c0
  have b21 := hB2.c1
  go_region_held3 (fun w' => w'.cell? ⟨w.heap.size, 0, none⟩ = some (.bool n1) ∧ w'.cell? ⟨w.heap.size, 1, none⟩ = some v1 ∧ w'.cell? ⟨w.heap.size + 1, 0, none⟩ = some (.bool n2) ∧ w'.cell? ⟨w.heap.size + 1, 1, none⟩ = some v2)
   (first | exact ⟨a20, a21, b20, b21⟩ | exact ⟨hA3.c0, hA3.c1, hB3.c0, hB3.c1⟩ | exact ⟨hA4.c0, hA4.c1, hB4.c0, hB4.c1⟩ | exact ⟨hA5.c0, hA5.c1, hB5.c0, hB5.c1⟩)
   (first
    | (go_at_call_of 127 (Value.agg #[Value.bool n1, v1]); refine (hG1.out w2.drew ⟨v1, rfl, g1'⟩).mono ?_; rintro e w3 ⟨u1, rfl, hu1, hk3⟩; have hA3 := hA2.drew.below hk3; have hB3 := hB2.drew.below hk3)
    | (go_at_call_of 127 (Value.agg #[Value.bool n2, v2]); refine (hG2.out w3 ⟨v2, rfl, U32.below (w := w2.drew) g2' hk3⟩).mono ?_; rintro e w4 ⟨u2, rfl, hu2, hk4⟩; have hA4 := hA3.below hk4; have hB4 := hB3.below hk4)
    | (go_at_call 129; refine (compare_any u1 u2 _ _ _ (hu1.below hk4) hu2 (by omega) (by omega)).mono ?_; rintro e w5 ⟨rfl, hk5⟩; have hA5 := hA4.below hk5; have hB5 := hB4.below hk5))
  have hkf := ((Keeps.trans' (Below.drew hk12) hk3).trans' hk4).trans' hk5
  have a50 := hA5.c0
  have hfin : (cnt n1 xs - cnt n2 ys).sign = if n1 then -((mag n1 xs : Int) - mag n2 ys).sign else ((mag n1 xs : Int) - mag n2 ys).sign := cmp_same n1 n2 (mag n1 xs) (mag n2 ys) HN.out
  have HF := Lib.hid hfin
  obtain ⟨hs1, hs2⟩ := sign_bd ((mag n1 xs : Int) - mag n2 ys)
  clear hfin
  cases n1
  ·go_wp2
   go_ret
   exact ⟨ret_int HF.out, hkf⟩
  ·go_wp2
   go_ret
   exact ⟨ret_int HF.out, hkf⟩
 ·have hb : ((cnt n1 xs).sign != (cnt n2 ys).sign) = true := by rw [bne_iff_ne]; exact hne
  have HN := Lib.hid hne
  clear hne
  go_wp2_with fail
  refine (cmp_int _ _ _).mono ?_
  rintro e w3 ⟨rfl, rfl⟩
  go_wp2
  go_ret
  refine ⟨ret_int ?_, hk12⟩
  exact (cmp_diff _ _ HN.out).symm
end Go.Proofs.YtgcigdahjabimaaGreatDoor
