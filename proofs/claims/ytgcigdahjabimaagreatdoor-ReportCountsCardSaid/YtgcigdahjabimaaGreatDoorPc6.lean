/- The walks of sum, Add, Sub, Mul, Compare, Of. -/
import Derived.Test.YtgcigdahjabimaaGreatDoorPc5
import Derived.Deep.RegionWith
namespace Go.Proofs.YtgcigdahjabimaaGreatDoor
open Go.RowKit Go.Shelf

theorem plus_d (v1 v2 : Value) (a b : Nat) (w : World) (h1 : U32 w v1 (dig a)) (h2 : U32 w v2 (dig b)) (hm1 : (dig a).length ≤ 1000000) (hm2 : (dig b).length ≤ 1000000) :
 Calls Tryz.prog 171 #[v1, v2] w fun e w' => ∃ v, e = .returned v ∧ U32 w' v (dig (a + b)) ∧ Keeps w w' := by
 obtain ⟨A, c, rfl, -, -, -, r1⟩ := h1
 obtain ⟨D, d, rfl, -, -, -, r2⟩ := h2
 have := plus_any A D c d _ _ w r1 r2 (AllB.dig a) (AllB.dig b) hm1 hm2
 rwa [val_dig, val_dig] at this
theorem minus_d (v1 v2 : Value) (a b : Nat) (w : World) (h1 : U32 w v1 (dig a)) (h2 : U32 w v2 (dig b)) (hm1 : (dig a).length ≤ 1000000) (hle : b ≤ a) :
 Calls Tryz.prog 172 #[v1, v2] w fun e w' => ∃ v, e = .returned v ∧ U32 w' v (dig (a - b)) ∧ Keeps w w' := by
 obtain ⟨A, n, c, rfl, e1, -, -, -, r1⟩ := h1.open_
 obtain ⟨D, m, d, rfl, e2, -, -, -, r2⟩ := h2.open_
 have := minus_any A D n m c d _ _ w e1 e2 r1 r2 (AllB.dig a) (AllB.dig b) (by omega) (by have := dig_length_mono hle; omega) (by rw [val_dig, val_dig]; exact hle)
 rwa [val_dig, val_dig] at this

set_option maxRecDepth 100000 in
set_option maxHeartbeats 1000000 in
theorem sum_any (n1 n2 : Bool) (v1 v2 : Value) (a b : Nat) (w : World) (h1 : U32 w v1 (dig a)) (h2 : U32 w v2 (dig b)) (hm1 : (dig a).length ≤ 1000000) (hm2 : (dig b).length ≤ 1000000) :
 Calls Tryz.prog 138 #[.bool n1, v1, .bool n2, v2] w fun e w' => ∃ V, e = .returned V ∧ IntRep w' V (sgn n1 a + sgn n2 b) ∧ Keeps w w' := by
 have hk0 := box2 w (.cells #[.bool false, .slice none 0 0] 29)
 have hR := Own.new w 29 [.bool false, .slice none 0 0]
 have g1 := h1.below hk0
 have g2 := h2.below hk0
 by_cases hn : n1 = n2
 ·subst hn
  have hb : (n1 == n1) = true := by simp
  go_enter Tryz.func138, Tryz.ntmps138
  go_wp2_with fail
  refine (plus_d v1 v2 a b _ g1 g2 hm1 hm2).mono ?_
  rintro e w1 ⟨v3, rfl, hv3, hk1⟩
  go_wp2_with fail
  refine (made_d n1 v3 _ _ hv3).mono ?_
  rintro e w2 ⟨V4, rfl, hr4, hk2⟩
  obtain ⟨A3, n3, c3, rfl, hv4⟩ := hr4.open_
  have hR2 := (hR.below hk1).below hk2
  have hk := (hk0.trans' hk1).trans' hk2
  have r0 := hR2.c0
  have r1 := hR2.c1
  have f0 := hR2.frozen 0
  have f1 := hR2.frozen 1
  obtain ⟨z, hz⟩ : ∃ z, sgn n1 (a + b) = z := ⟨_, rfl⟩
  rw [hz] at hr4 hv4 ⊢
  have HZ := Lib.hid hz
  clear hz
  go_wp2
  have hR4 := hR2.two (.bool (decide (z < 0))) (.slice A3 n3 c3)
  refine bodyPost_ret (v := .agg #[.bool (decide (z < 0)), .slice A3 n3 c3]) (by simp [results, Tryz.results138, go_sem, hR4.c0, hR4.c1]) rfl ?_
  refine ⟨_, rfl, ?_, (hk.set (Nat.le_refl _) _).set (Nat.le_refl _) _⟩
  rw [show sgn n1 a + sgn n1 b = z by rw [← HZ.out]; cases n1 <;> simp [sgn]; omega]
  exact hr4.two hR2 rfl rfl rfl
 ·have hb : (n1 == n2) = false := by simpa using hn
  by_cases hab : b ≤ a
  ·have hs : decide (0 ≤ ((a : Int) - b).sign) = true := decide_eq_true (by
    rcases Nat.eq_or_lt_of_le hab with h | h
    ·subst h; simp
    ·rw [Int.sign_eq_one_of_pos (by omega)]; omega)
   have HA := Lib.hid hab
   have HN := Lib.hid hn
   clear hab hn
   go_enter Tryz.func138, Tryz.ntmps138
   go_wp2_with fail
   refine (compare_any v1 v2 a b _ g1 g2 (by omega) (by omega)).mono ?_
   rintro e w0 ⟨rfl, hk1⟩
   go_wp2_with fail
   refine (minus_d v1 v2 a b _ (g1.below hk1) (g2.below hk1) hm1 HA.out).mono ?_
   rintro e w1 ⟨v3, rfl, hv3, hk2⟩
   go_wp2_with fail
   refine (made_d n1 v3 _ _ hv3).mono ?_
   rintro e w2 ⟨V4, rfl, hr4, hk3⟩
   obtain ⟨A3, n3, c3, rfl, hv4⟩ := hr4.open_
   have hR2 := ((hR.below hk1).below hk2).below hk3
   have hk := ((hk0.trans' hk1).trans' hk2).trans' hk3
   have r0 := hR2.c0
   have r1 := hR2.c1
   have f0 := hR2.frozen 0
   have f1 := hR2.frozen 1
   obtain ⟨z, hz⟩ : ∃ z, sgn n1 (a - b) = z := ⟨_, rfl⟩
   rw [hz] at hr4 hv4 ⊢
   have HZ := Lib.hid hz
   clear hz
   go_wp2
   have hR4 := hR2.two (.bool (decide (z < 0))) (.slice A3 n3 c3)
   refine bodyPost_ret (v := .agg #[.bool (decide (z < 0)), .slice A3 n3 c3]) (by simp [results, Tryz.results138, go_sem, hR4.c0, hR4.c1]) rfl ?_
   refine ⟨_, rfl, ?_, (hk.set (Nat.le_refl _) _).set (Nat.le_refl _) _⟩
   rw [show sgn n1 a + sgn n2 b = z by
    rw [← HZ.out]; have h1 := HN.out; have h2 := HA.out; cases n1 <;> cases n2 <;> simp [sgn] at h1 ⊢ <;> omega]
   exact hr4.two hR2 rfl rfl rfl
  ·have hs : decide (0 ≤ ((a : Int) - b).sign) = false := decide_eq_false (by
    rw [Int.sign_eq_neg_one_of_neg (by omega)]; omega)
   have HA := Lib.hid hab
   have HN := Lib.hid hn
   clear hab hn
   go_enter Tryz.func138, Tryz.ntmps138
   go_wp2_with fail
   refine (compare_any v1 v2 a b _ g1 g2 (by omega) (by omega)).mono ?_
   rintro e w0 ⟨rfl, hk1⟩
   go_wp2_with fail
   refine (minus_d v2 v1 b a _ (g2.below hk1) (g1.below hk1) hm2 (by have := HA.out; omega)).mono ?_
   rintro e w1 ⟨v3, rfl, hv3, hk2⟩
   go_wp2_with fail
   refine (made_d n2 v3 _ _ hv3).mono ?_
   rintro e w2 ⟨V4, rfl, hr4, hk3⟩
   obtain ⟨A3, n3, c3, rfl, hv4⟩ := hr4.open_
   have hR2 := ((hR.below hk1).below hk2).below hk3
   have hk := ((hk0.trans' hk1).trans' hk2).trans' hk3
   have r0 := hR2.c0
   have r1 := hR2.c1
   have f0 := hR2.frozen 0
   have f1 := hR2.frozen 1
   obtain ⟨z, hz⟩ : ∃ z, sgn n2 (b - a) = z := ⟨_, rfl⟩
   rw [hz] at hr4 hv4 ⊢
   have HZ := Lib.hid hz
   clear hz
   go_wp2
   have hR4 := hR2.two (.bool (decide (z < 0))) (.slice A3 n3 c3)
   refine bodyPost_ret (v := .agg #[.bool (decide (z < 0)), .slice A3 n3 c3]) (by simp [results, Tryz.results138, go_sem, hR4.c0, hR4.c1]) rfl ?_
   refine ⟨_, rfl, ?_, (hk.set (Nat.le_refl _) _).set (Nat.le_refl _) _⟩
   rw [show sgn n1 a + sgn n2 b = z by
    rw [← HZ.out]; have h1 := HN.out; have h2 := HA.out; cases n1 <;> cases n2 <;> simp [sgn] at h1 ⊢ <;> omega]
   exact hr4.two hR2 rfl rfl rfl

set_option maxRecDepth 100000 in
set_option maxHeartbeats 1000000 in
theorem add_any (n1 n2 : Bool) (xs ys : List Nat) (V1 V2 : Value) (w : World) (h1 : IntArg w V1 n1 xs) (h2 : IntArg w V2 n2 ys) (hm1 : xs.length ≤ 1000000) (hm2 : ys.length ≤ 1000000) :
 Calls Tryz.prog 95 #[V1, V2] w fun e w' => ∃ V, e = .returned V ∧ IntRep w' V (cnt n1 xs + cnt n2 ys) ∧ Keeps w w' := by
 obtain ⟨v1, rfl, hv1⟩ := h1
 obtain ⟨v2, rfl, hv2⟩ := h2
 have hml1 := mag_length n1 xs
 have hml2 := mag_length n2 ys
 have hkk := keep3 w (.cells #[.bool n1, v1] 29) (.cells #[.bool n2, v2] 29) (.cells #[.bool false, .slice none 0 0] 29)
 have hG1 := Lib.hid (fun W (hW : IntArg W (.agg #[.bool n1, v1]) n1 xs) => groups_any n1 xs (.agg #[.bool n1, v1]) W hW hm1)
 have hG2 := Lib.hid (fun W (hW : IntArg W (.agg #[.bool n2, v2]) n2 ys) => groups_any n2 ys (.agg #[.bool n2, v2]) W hW hm2)
 have hR := own3 w (.cells #[.bool n1, v1] 29) (.cells #[.bool n2, v2] 29) 29 [.bool false, .slice none 0 0]
 have hB := (own2 w (.cells #[.bool n1, v1] 29) 29 [.bool n2, v2]).alloc (.cells #[.bool false, .slice none 0 0] 29)
 have hA := ((Own.new w 29 [.bool n1, v1]).alloc (.cells #[.bool n2, v2] 29)).alloc (.cells #[.bool false, .slice none 0 0] 29)
 go_enter Tryz.func95, Tryz.ntmps95
 go_wp2_with fail
 have g1 := hv1.below hkk
 have g2 := hv2.below hkk
 generalize ((w.alloc (.cells #[.bool n1, v1] 29)).alloc (.cells #[.bool n2, v2] 29)).alloc (.cells #[.bool false, .slice none 0 0] 29) = W at *
 have a0 := hA.c0
 have a1 := hA.c1
 have b0 := hB.c0
 have b1 := hB.c1
 go_region_held3 (fun w' => w'.cell? ⟨w.heap.size, 0, none⟩ = some (.bool n1) ∧ w'.cell? ⟨w.heap.size, 1, none⟩ = some v1 ∧ w'.cell? ⟨w.heap.size + 1, 0, none⟩ = some (.bool n2) ∧ w'.cell? ⟨w.heap.size + 1, 1, none⟩ = some v2)
  (first | exact ⟨a0, a1, b0, b1⟩ | exact ⟨hA1.c0, hA1.c1, hB1.c0, hB1.c1⟩ | exact ⟨hA2.c0, hA2.c1, hB2.c0, hB2.c1⟩ | exact ⟨hAt.c0, hAt.c1, hBt.c0, hBt.c1⟩ | exact ⟨hA3.c0, hA3.c1, hB3.c0, hB3.c1⟩ | exact ⟨(hA3.far2 (by omega)).c0, (hA3.far2 (by omega)).c1, (hB3.far2 (by omega)).c0, (hB3.far2 (by omega)).c1⟩)
  (first
   | (go_at_call_of 127 (Value.agg #[Value.bool n1, v1]); refine (hG1.out W.drew ⟨v1, rfl, g1⟩).mono ?_; rintro e w1 ⟨u1, rfl, hu1, hk1⟩; have hA1 := hA.drew.below hk1; have hB1 := hB.drew.below hk1)
   | (go_at_call_of 127 (Value.agg #[Value.bool n2, v2]); refine (hG2.out w1 ⟨v2, rfl, U32.below (w := W.drew) g2 hk1⟩).mono ?_; rintro e w2 ⟨u2, rfl, hu2, hk2⟩; have hA2 := hA1.below hk2; have hB2 := hB1.below hk2)
   | (go_at_call 138; refine (sum_any n1 n2 u1 u2 _ _ _ (hu1.below hk2) hu2 (by omega) (by omega)).mono ?_; rintro e w3 ⟨V3, rfl, hr3, hk3⟩; have hA3 := hA2.below hk3; have hB3 := hB2.below hk3; have hR3 := ((hR.drew.below hk1).below hk2).below hk3; have hkR := ((Keeps.trans' (Below.drew hkk) hk1).trans' hk2).trans' hk3; obtain ⟨A3, n3, c3, rfl, hv3⟩ := hr3.open_; have r0 := hR3.c0; have r1 := hR3.c1; have f0 := hR3.frozen 0; have f1 := hR3.frozen 1))
 obtain ⟨z, hz⟩ : ∃ z, sgn n1 (mag n1 xs) + sgn n2 (mag n2 ys) = z := ⟨_, rfl⟩
 rw [hz] at hr3 hv3
 simp only [hz]
 have HZ := Lib.hid hz
 clear hz
 go_wp2
 have hR4 := hR3.two (.bool (decide (z < 0))) (.slice A3 n3 c3)
 refine bodyPost_ret (v := .agg #[.bool (decide (z < 0)), .slice A3 n3 c3]) (by simp [results, Tryz.results95, go_sem, hR4.c0, hR4.c1]) rfl ?_
 refine ⟨_, rfl, ?_, (hkR.set (by simp; omega) _).set (by simp; omega) _⟩
 rw [show cnt n1 xs + cnt n2 ys = z by rw [← HZ.out]; rfl]
 exact hr3.two hR3 rfl rfl rfl


set_option maxRecDepth 100000 in
set_option maxHeartbeats 1000000 in
theorem mul_any (n1 n2 : Bool) (xs ys : List Nat) (V1 V2 : Value) (w : World) (h1 : IntArg w V1 n1 xs) (h2 : IntArg w V2 n2 ys) (hm1 : xs.length ≤ 1000000) (hm2 : ys.length ≤ 1000000) :
 Calls Tryz.prog 94 #[V1, V2] w fun e w' => ∃ V, e = .returned V ∧ IntRep w' V (cnt n1 xs * cnt n2 ys) ∧ Keeps w w' := by
 obtain ⟨v1, rfl, hv1⟩ := h1
 obtain ⟨v2, rfl, hv2⟩ := h2
 have hml1 := mag_length n1 xs
 have hml2 := mag_length n2 ys
 have hkk := keep3 w (.cells #[.bool n1, v1] 29) (.cells #[.bool n2, v2] 29) (.cells #[.bool false, .slice none 0 0] 29)
 have hG1 := Lib.hid (fun W (hW : IntArg W (.agg #[.bool n1, v1]) n1 xs) => groups_any n1 xs (.agg #[.bool n1, v1]) W hW hm1)
 have hG2 := Lib.hid (fun W (hW : IntArg W (.agg #[.bool n2, v2]) n2 ys) => groups_any n2 ys (.agg #[.bool n2, v2]) W hW hm2)
 have hR := own3 w (.cells #[.bool n1, v1] 29) (.cells #[.bool n2, v2] 29) 29 [.bool false, .slice none 0 0]
 have hB := (own2 w (.cells #[.bool n1, v1] 29) 29 [.bool n2, v2]).alloc (.cells #[.bool false, .slice none 0 0] 29)
 have hA := ((Own.new w 29 [.bool n1, v1]).alloc (.cells #[.bool n2, v2] 29)).alloc (.cells #[.bool false, .slice none 0 0] 29)
 go_enter Tryz.func94, Tryz.ntmps94
 go_wp2_with fail
 have g1 := hv1.below hkk
 have g2 := hv2.below hkk
 generalize ((w.alloc (.cells #[.bool n1, v1] 29)).alloc (.cells #[.bool n2, v2] 29)).alloc (.cells #[.bool false, .slice none 0 0] 29) = W at *
 have a0 := hA.c0
 have a1 := hA.c1
 have b0 := hB.c0
 have b1 := hB.c1
 go_region_held3 (fun w' => w'.cell? ⟨w.heap.size, 0, none⟩ = some (.bool n1) ∧ w'.cell? ⟨w.heap.size, 1, none⟩ = some v1 ∧ w'.cell? ⟨w.heap.size + 1, 0, none⟩ = some (.bool n2) ∧ w'.cell? ⟨w.heap.size + 1, 1, none⟩ = some v2)
  (first | exact ⟨a0, a1, b0, b1⟩ | exact ⟨hA1.c0, hA1.c1, hB1.c0, hB1.c1⟩ | exact ⟨hA2.c0, hA2.c1, hB2.c0, hB2.c1⟩ | exact ⟨hAt.c0, hAt.c1, hBt.c0, hBt.c1⟩ | exact ⟨hA3.c0, hA3.c1, hB3.c0, hB3.c1⟩ | exact ⟨(hA3.far2 (by omega)).c0, (hA3.far2 (by omega)).c1, (hB3.far2 (by omega)).c0, (hB3.far2 (by omega)).c1⟩)
  (first
   | (go_at_call_of 127 (Value.agg #[Value.bool n1, v1]); refine (hG1.out W.drew ⟨v1, rfl, g1⟩).mono ?_; rintro e w1 ⟨u1, rfl, hu1, hk1⟩; have hA1 := hA.drew.below hk1; have hB1 := hB.drew.below hk1)
   | (go_at_call_of 127 (Value.agg #[Value.bool n2, v2]); refine (hG2.out w1 ⟨v2, rfl, U32.below (w := W.drew) g2 hk1⟩).mono ?_; rintro e w2 ⟨u2, rfl, hu2, hk2⟩; have hA2 := hA1.below hk2; have hB2 := hB1.below hk2)
   | (go_at_call 137; refine (times_any u1 u2 _ _ _ (hu1.below hk2) hu2 (by omega) (by omega)).mono ?_; rintro e wt ⟨vt, rfl, ht, hkt⟩; have hAt := hA2.below hkt; have hBt := hB2.below hkt)
   | (go_at_call 90; refine (made_d (n1 != n2) vt _ _ (U32.of_own ht)).mono ?_; rintro e w3 ⟨V3, rfl, hr3, hk3⟩; have hA3 := hAt.below hk3; have hB3 := hBt.below hk3; have hR3 := (((hR.drew.below hk1).below hk2).below hkt).below hk3; have hkR := (((Keeps.trans' (Below.drew hkk) hk1).trans' hk2).trans' hkt).trans' hk3; obtain ⟨A3, n3, c3, rfl, hv3⟩ := hr3.open_; have r0 := hR3.c0; have r1 := hR3.c1; have f0 := hR3.frozen 0; have f1 := hR3.frozen 1))
 obtain ⟨z, hz⟩ : ∃ z, sgn (n1 != n2) (mag n1 xs * mag n2 ys) = z := ⟨_, rfl⟩
 rw [hz] at hr3 hv3
 simp only [hz]
 have HZ := Lib.hid hz
 clear hz
 go_wp2
 have hR4 := hR3.two (.bool (decide (z < 0))) (.slice A3 n3 c3)
 refine bodyPost_ret (v := .agg #[.bool (decide (z < 0)), .slice A3 n3 c3]) (by simp [results, Tryz.results94, go_sem, hR4.c0, hR4.c1]) rfl ?_
 refine ⟨_, rfl, ?_, (hkR.set (by simp; omega) _).set (by simp; omega) _⟩
 rw [show cnt n1 xs * cnt n2 ys = z by rw [← HZ.out]; unfold cnt; cases n1 <;> cases n2 <;> simp [sgn, Int.neg_mul, Int.mul_neg]]
 exact hr3.two hR3 rfl rfl rfl

end Go.Proofs.YtgcigdahjabimaaGreatDoor
