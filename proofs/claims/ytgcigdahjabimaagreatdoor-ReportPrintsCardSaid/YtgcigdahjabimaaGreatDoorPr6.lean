/- The walks of the reference's Add, Sub, Mul, Compare, Of. -/
import Derived.Test.YtgcigdahjabimaaGreatDoorPr5
import Derived.Deep.DeepCutAuto
namespace Go.Proofs.YtgcigdahjabimaaGreatDoor
open Go.RowKit Go.Shelf

def TwoRes (w wx : World) (t : TypeId) (z1 z2 : Int) : Prop := ∃ A1 m1 c1 A2 m2 c2, Own wx w.heap.size t [.bool (decide (z1 < 0)), .slice A1 m1 c1] ∧ Own wx (w.heap.size + 1) t [.bool (decide (z2 < 0)), .slice A2 m2 c2] ∧
 Own wx (w.heap.size + 1 + 1) t [.bool false, .slice none 0 0] ∧ U32 wx (.slice A1 m1 c1) (dig z1.natAbs) ∧ U32 wx (.slice A2 m2 c2) (dig z2.natAbs) ∧ Keeps w wx
theorem U32.two {w : World} {R : Nat} {t : TypeId} {v x y x' y' : Value} {xs : List Nat} (h : U32 w v xs) (hR : Own w R t [x, y]) (hx : noU32 x = true) (hy : noU32 y = true) (hx' : noU32 x' = true) :
 U32 ((w.setCell ⟨R, 0, none⟩ x').setCell ⟨R, 1, none⟩ y') v xs :=
 (h.put hR (by simp [hx, hy]) 0 x').put (hR.set 0 x') (by simp [hx', hy]) 1 y'
theorem U32.noU {w : World} {v : Value} {xs : List Nat} (h : U32 w v xs) : noU32 v = true := by obtain ⟨A, c, rfl, -⟩ := h; rfl
theorem TwoRes.of {w w2 : World} {t : TypeId} {z1 z2 : Int} {A1 A2 : Option Addr} {m1 c1 m2 c2 : Nat} {x y x' y' : Value}
 (hA : Own w2 w.heap.size t [x, y]) (hB : Own w2 (w.heap.size + 1) t [x', y']) (hR : Own w2 (w.heap.size + 1 + 1) t [.bool false, .slice none 0 0])
 (h1 : U32 w2 (.slice A1 m1 c1) (dig z1.natAbs)) (h2 : U32 w2 (.slice A2 m2 c2) (dig z2.natAbs)) (hk : Keeps w w2) (hx : noU32 x = true) (hy : noU32 y = true) (hx' : noU32 x' = true) (hy' : noU32 y' = true) :
 TwoRes w ((((w2.setCell ⟨w.heap.size, 0, none⟩ (.bool (decide (z1 < 0)))).setCell ⟨w.heap.size, 1, none⟩ (.slice A1 m1 c1)).setCell ⟨w.heap.size + 1, 0, none⟩ (.bool (decide (z2 < 0)))).setCell ⟨w.heap.size + 1, 1, none⟩ (.slice A2 m2 c2)) t z1 z2 := by
 have hA1 := hA.two (.bool (decide (z1 < 0))) (.slice A1 m1 c1)
 have hB1 := hB.far2 (R := w.heap.size) (by omega) (x := .bool (decide (z1 < 0))) (y := .slice A1 m1 c1)
 have hR1 := hR.far2 (R := w.heap.size) (by omega) (x := .bool (decide (z1 < 0))) (y := .slice A1 m1 c1)
 have g1 := h1.two (x' := .bool (decide (z1 < 0))) (y' := .slice A1 m1 c1) hA hx hy rfl
 have g2 := h2.two (x' := .bool (decide (z1 < 0))) (y' := .slice A1 m1 c1) hA hx hy rfl
 exact ⟨A1, m1, c1, A2, m2, c2, hA1.far2 (by omega), hB1.two _ _, hR1.far2 (by omega), g1.two hB1 hx' hy' rfl, g2.two hB1 hx' hy' rfl,
  (((hk.set (Nat.le_refl _) _).set (Nat.le_refl _) _).set (by simp) _).set (by simp) _⟩

set_option maxRecDepth 100000 in
set_option maxHeartbeats 1000000 in
theorem radd_any (n1 n2 : Bool) (xs ys : List Nat) (V1 V2 : Value) (w : World) (h1 : IntArg w V1 n1 xs) (h2 : IntArg w V2 n2 ys) (hm1 : xs.length ≤ 1000000) (hm2 : ys.length ≤ 1000000) :
 Calls Tryz.prog 53 #[V1, V2] w fun e w' => ∃ V, e = .returned V ∧ IntRep w' V (cnt n1 xs + cnt n2 ys) ∧ Keeps w w' := by
 obtain ⟨v1, rfl, hv1⟩ := h1
 obtain ⟨v2, rfl, hv2⟩ := h2
 have hml1 := mag_length n1 xs
 have hml2 := mag_length n2 ys
 have hkk := keep3 w (.cells #[.bool n1, v1] 29) (.cells #[.bool n2, v2] 29) (.cells #[.bool false, .slice none 0 0] 29)
 have hG1 := Lib.hid (fun W (hW : IntArg W (.agg #[.bool n1, v1]) n1 xs) => rvalue_any n1 xs (.agg #[.bool n1, v1]) W hW hm1)
 have hG2 := Lib.hid (fun W (hW : IntArg W (.agg #[.bool n2, v2]) n2 ys) => rvalue_any n2 ys (.agg #[.bool n2, v2]) W hW hm2)
 have hR := own3 w (.cells #[.bool n1, v1] 29) (.cells #[.bool n2, v2] 29) 29 [.bool false, .slice none 0 0]
 have hB := (own2 w (.cells #[.bool n1, v1] 29) 29 [.bool n2, v2]).alloc (.cells #[.bool false, .slice none 0 0] 29)
 have hA := ((Own.new w 29 [.bool n1, v1]).alloc (.cells #[.bool n2, v2] 29)).alloc (.cells #[.bool false, .slice none 0 0] 29)
 go_enter Tryz.func53, Tryz.ntmps53
 go_upto_region 1 with fail
 have g1 := hv1.below hkk
 have g2 := hv2.below hkk
 generalize ((w.alloc (.cells #[.bool n1, v1] 29)).alloc (.cells #[.bool n2, v2] 29)).alloc (.cells #[.bool false, .slice none 0 0] 29) = W at *
 have a0 := hA.c0
 have a1 := hA.c1
 have b0 := hB.c0
 have b1 := hB.c1
 go_cut [] (fun wx => TwoRes w wx 29 (cnt n1 xs) (cnt n2 ys))
 case first =>
  go_region_with (first
   | (go_at_call_of 99 (Value.agg #[Value.bool n1, v1]); refine (hG1.out W.drew ⟨v1, rfl, g1⟩).mono ?_; rintro e w1 ⟨U1, rfl, hr1, hk1⟩; obtain ⟨A1, m1, c1, rfl, hu1⟩ := hr1.open_; have hA1 := hA.drew.below hk1; have hB1 := hB.drew.below hk1; have a10 := hA1.c0; have a11 := hA1.c1; have b10 := hB1.c0; have b11 := hB1.c1)
   | (go_at_call_of 99 (Value.agg #[Value.bool n2, v2]); refine (hG2.out w1 ⟨v2, rfl, U32.below (w := W.drew) g2 hk1⟩).mono ?_; rintro e w2 ⟨U2, rfl, hr2, hk2⟩; obtain ⟨A2, m2, c2, rfl, hu2⟩ := hr2.open_; have hA2 := hA1.below hk2; have hB2 := hB1.below hk2; have hR2 := (hR.drew.below hk1).below hk2; have hk3 := (Keeps.trans' (Below.drew hkk) hk1).trans' hk2; have a20 := hA2.c0; have a21 := hA2.c1; have b20 := hB2.c0; have b21 := hB2.c1; have af0 := hA2.frozen 0; have af1 := hA2.frozen 1; have bf0 := hB2.frozen 0; have bf1 := hB2.frozen 1))
  all_goals (go_wp2_with fail; go_meet; exact TwoRes.of hA2 hB2 hR2 (hu1.below hk2) hu2 hk3 rfl hv1.noU rfl hv2.noU)
 case rest =>
  clear hG1 hG2 a0 a1 b0 b1 hA hB hR hkk
  obtain ⟨A1, m1, c1, A2, m2, c2, hA, hB, hR, hu1, hu2, hk⟩ := hcut
  have hl1 : (dig (cnt n1 xs).natAbs).length ≤ 1000000 := by rw [cnt_abs]; omega
  have hl2 : (dig (cnt n2 ys).natAbs).length ≤ 1000000 := by rw [cnt_abs]; omega
  obtain ⟨z1, hz1⟩ : ∃ z, cnt n1 xs = z := ⟨_, rfl⟩
  obtain ⟨z2, hz2⟩ : ∃ z, cnt n2 ys = z := ⟨_, rfl⟩
  rw [hz1] at hA hu1 hl1
  rw [hz2] at hB hu2 hl2
  have HZ1 := Lib.hid hz1
  have HZ2 := Lib.hid hz2
  clear hz1 hz2
  -- RADD-REST
  have hs1 := sgn_of_rep z1
  have hs2 := sgn_of_rep z2
  generalize decide (z1 < 0) = b1 at *
  generalize decide (z2 < 0) = b2 at *
  generalize z1.natAbs = a at *
  generalize z2.natAbs = b at *
  have HS1 := Lib.hid hs1
  have HS2 := Lib.hid hs2
  clear hs1 hs2 hml1 hml2 g1 g2 hv1 hv2 hm1 hm2
  have p0 := hA.c0
  have p1 := hA.c1
  have q0 := hB.c0
  have q1 := hB.c1
  have hla := dig_length_add a b
  have hls1 := dig_length_mono (show a - b ≤ a by omega)
  have hls2 := dig_length_mono (show b - a ≤ b by omega)
  by_cases hn : b1 = b2
  ·have hb : (b1 == b2) = true := by simpa using hn
   have HN := Lib.hid hn
   clear hn
   go_wp2_with fail
   go_region_held3 (fun w' => w'.cell? ⟨w.heap.size, 0, none⟩ = some (.bool b1) ∧ w'.cell? ⟨w.heap.size, 1, none⟩ = some (.slice A1 m1 c1) ∧ w'.cell? ⟨w.heap.size + 1, 0, none⟩ = some (.bool b2) ∧ w'.cell? ⟨w.heap.size + 1, 1, none⟩ = some (.slice A2 m2 c2))
    (first | exact ⟨p0, p1, q0, q1⟩ | exact ⟨hA1.c0, hA1.c1, hB1.c0, hB1.c1⟩ | exact ⟨hA2.c0, hA2.c1, hB2.c0, hB2.c1⟩ | exact ⟨(hA2.far2 (by omega)).c0, (hA2.far2 (by omega)).c1, (hB2.far2 (by omega)).c0, (hB2.far2 (by omega)).c1⟩)
    (first
     | (go_at_call 101; refine (rplus_d _ _ a b wc.drew hu1 hu2 hl1 hl2).mono ?_; rintro e w1 ⟨v1, rfl, hv1, hk1⟩; have hA1 := hA.drew.below hk1; have hB1 := hB.drew.below hk1)
     | (go_at_call 100; refine (rmade_d b1 v1 _ _ hv1 (by omega)).mono ?_; rintro e w2 ⟨V3, rfl, hr3, hk2⟩; obtain ⟨A3, n3, c3, rfl, hv3⟩ := hr3.open_; have hA2 := hA1.below hk2; have hB2 := hB1.below hk2; have hR3 := (hR.drew.below hk1).below hk2; have hkR := (Keeps.trans' (Below.drew hk) hk1).trans' hk2; have r0 := hR3.c0; have r1 := hR3.c1; have f0 := hR3.frozen 0; have f1 := hR3.frozen 1))
   obtain ⟨z, hz⟩ : ∃ z, sgn b1 (a + b) = z := ⟨_, rfl⟩
   rw [hz] at hr3 hv3
   simp only [hz]
   have HZ := Lib.hid hz
   clear hz
   go_wp2
   have hR4 := hR3.two (.bool (decide (z < 0))) (.slice A3 n3 c3)
   refine bodyPost_ret (v := .agg #[.bool (decide (z < 0)), .slice A3 n3 c3]) (by simp [results, Tryz.results53, go_sem, hR4.c0, hR4.c1]) rfl ?_
   refine ⟨_, rfl, ?_, (hkR.set (by simp; omega) _).set (by simp; omega) _⟩
   rw [show cnt n1 xs + cnt n2 ys = z by rw [HZ1.out, HZ2.out]; rw [← HZ.out, ← HS1.out, ← HS2.out, ← HN.out]; cases b1 <;> simp [sgn]; omega]
   exact hr3.two hR3 rfl rfl rfl
  ·have hb : (b1 == b2) = false := by simpa using hn
   have HN := Lib.hid hn
   clear hn
   by_cases hab : b ≤ a
   ·have hs : decide (0 ≤ ((a : Int) - b).sign) = true := decide_eq_true (by
     rcases Nat.eq_or_lt_of_le hab with h | h
     ·subst h; simp
     ·rw [Int.sign_eq_one_of_pos (by omega)]; omega)
    have HAB := Lib.hid hab
    clear hab
    go_wp2_with fail
    refine (size_any _ _ a b _ hu1 hu2 hl1 hl2).mono ?_
    rintro e w0 ⟨rfl, hk0⟩
    have hA0 := hA.below hk0
    have hB0 := hB.below hk0
    have hR0 := hR.below hk0
    have hkk0 := hk.trans' hk0
    have hu1' := hu1.below hk0
    have hu2' := hu2.below hk0
    clear p0 p1 q0 q1
    have p0 := hA0.c0
    have p1 := hA0.c1
    have q0 := hB0.c0
    have q1 := hB0.c1
    go_wp2_with fail
    go_region_held3 (fun w' => w'.cell? ⟨w.heap.size, 0, none⟩ = some (.bool b1) ∧ w'.cell? ⟨w.heap.size, 1, none⟩ = some (.slice A1 m1 c1) ∧ w'.cell? ⟨w.heap.size + 1, 0, none⟩ = some (.bool b2) ∧ w'.cell? ⟨w.heap.size + 1, 1, none⟩ = some (.slice A2 m2 c2))
     (first | exact ⟨p0, p1, q0, q1⟩ | exact ⟨hA1.c0, hA1.c1, hB1.c0, hB1.c1⟩ | exact ⟨hA2.c0, hA2.c1, hB2.c0, hB2.c1⟩ | exact ⟨(hA2.far2 (by omega)).c0, (hA2.far2 (by omega)).c1, (hB2.far2 (by omega)).c0, (hB2.far2 (by omega)).c1⟩)
     (first
      | (go_at_call 103; refine (rminus_d _ _ a b w0.drew hu1' hu2' hl1 HAB.out).mono ?_; rintro e w1 ⟨v1, rfl, hv1, hk1⟩; have hA1 := hA0.drew.below hk1; have hB1 := hB0.drew.below hk1)
      | (go_at_call 100; refine (rmade_d b1 v1 _ _ hv1 (by omega)).mono ?_; rintro e w2 ⟨V3, rfl, hr3, hk2⟩; obtain ⟨A3, n3, c3, rfl, hv3⟩ := hr3.open_; have hA2 := hA1.below hk2; have hB2 := hB1.below hk2; have hR3 := (hR0.drew.below hk1).below hk2; have hkR := (Keeps.trans' (Below.drew hkk0) hk1).trans' hk2; have r0 := hR3.c0; have r1 := hR3.c1; have f0 := hR3.frozen 0; have f1 := hR3.frozen 1))
    obtain ⟨z, hz⟩ : ∃ z, sgn b1 (a - b) = z := ⟨_, rfl⟩
    rw [hz] at hr3 hv3
    simp only [hz]
    have HZ := Lib.hid hz
    clear hz
    go_wp2
    have hR4 := hR3.two (.bool (decide (z < 0))) (.slice A3 n3 c3)
    refine bodyPost_ret (v := .agg #[.bool (decide (z < 0)), .slice A3 n3 c3]) (by simp [results, Tryz.results53, go_sem, hR4.c0, hR4.c1]) rfl ?_
    refine ⟨_, rfl, ?_, (hkR.set (by simp; omega) _).set (by simp; omega) _⟩
    rw [show cnt n1 xs + cnt n2 ys = z by rw [HZ1.out, HZ2.out]; rw [← HZ.out, ← HS1.out, ← HS2.out]; have h1 := HN.out; have h2 := HAB.out; cases b1 <;> cases b2 <;> simp [sgn] at h1 ⊢ <;> omega]
    exact hr3.two hR3 rfl rfl rfl
   ·have hs : decide (0 ≤ ((a : Int) - b).sign) = false := decide_eq_false (by
     rw [Int.sign_eq_neg_one_of_neg (by omega)]; omega)
    have HAB := Lib.hid hab
    clear hab
    go_wp2_with fail
    refine (size_any _ _ a b _ hu1 hu2 hl1 hl2).mono ?_
    rintro e w0 ⟨rfl, hk0⟩
    have hA0 := hA.below hk0
    have hB0 := hB.below hk0
    have hR0 := hR.below hk0
    have hkk0 := hk.trans' hk0
    have hu1' := hu1.below hk0
    have hu2' := hu2.below hk0
    clear p0 p1 q0 q1
    have p0 := hA0.c0
    have p1 := hA0.c1
    have q0 := hB0.c0
    have q1 := hB0.c1
    go_wp2_with fail
    go_region_held3 (fun w' => w'.cell? ⟨w.heap.size, 0, none⟩ = some (.bool b1) ∧ w'.cell? ⟨w.heap.size, 1, none⟩ = some (.slice A1 m1 c1) ∧ w'.cell? ⟨w.heap.size + 1, 0, none⟩ = some (.bool b2) ∧ w'.cell? ⟨w.heap.size + 1, 1, none⟩ = some (.slice A2 m2 c2))
     (first | exact ⟨p0, p1, q0, q1⟩ | exact ⟨hA1.c0, hA1.c1, hB1.c0, hB1.c1⟩ | exact ⟨hA2.c0, hA2.c1, hB2.c0, hB2.c1⟩ | exact ⟨(hA2.far2 (by omega)).c0, (hA2.far2 (by omega)).c1, (hB2.far2 (by omega)).c0, (hB2.far2 (by omega)).c1⟩)
     (first
      | (go_at_call 103; refine (rminus_d _ _ b a w0.drew hu2' hu1' hl2 (by have := HAB.out; omega)).mono ?_; rintro e w1 ⟨v1, rfl, hv1, hk1⟩; have hA1 := hA0.drew.below hk1; have hB1 := hB0.drew.below hk1)
      | (go_at_call 100; refine (rmade_d b2 v1 _ _ hv1 (by omega)).mono ?_; rintro e w2 ⟨V3, rfl, hr3, hk2⟩; obtain ⟨A3, n3, c3, rfl, hv3⟩ := hr3.open_; have hA2 := hA1.below hk2; have hB2 := hB1.below hk2; have hR3 := (hR0.drew.below hk1).below hk2; have hkR := (Keeps.trans' (Below.drew hkk0) hk1).trans' hk2; have r0 := hR3.c0; have r1 := hR3.c1; have f0 := hR3.frozen 0; have f1 := hR3.frozen 1))
    obtain ⟨z, hz⟩ : ∃ z, sgn b2 (b - a) = z := ⟨_, rfl⟩
    rw [hz] at hr3 hv3
    simp only [hz]
    have HZ := Lib.hid hz
    clear hz
    go_wp2
    have hR4 := hR3.two (.bool (decide (z < 0))) (.slice A3 n3 c3)
    refine bodyPost_ret (v := .agg #[.bool (decide (z < 0)), .slice A3 n3 c3]) (by simp [results, Tryz.results53, go_sem, hR4.c0, hR4.c1]) rfl ?_
    refine ⟨_, rfl, ?_, (hkR.set (by simp; omega) _).set (by simp; omega) _⟩
    rw [show cnt n1 xs + cnt n2 ys = z by rw [HZ1.out, HZ2.out]; rw [← HZ.out, ← HS1.out, ← HS2.out]; have h1 := HN.out; have h2 := HAB.out; cases b1 <;> cases b2 <;> simp [sgn] at h1 ⊢ <;> omega]
    exact hr3.two hR3 rfl rfl rfl
end Go.Proofs.YtgcigdahjabimaaGreatDoor
