/- The walk of the law FractionField. -/
import Derived.Test.YtmochehkkadjnaaGreatDoorMgStab
namespace Go.Proofs.YtmochehkkadjnaaGreatDoor
open Go.RowKit Go.Shelf

set_option maxRecDepth 100000 in
set_option maxHeartbeats 1000000 in
theorem fld_1 {w : World} {V1 V2 V3 : Value} {x y z : Rat} {b2 b3 : Bool} (h1 : RatS w V1 x false) (h2 : RatS w V2 y b2) (h3 : RatS w V3 z b3)  (ht : PowTab w) : Calls Tryz.prog 4 #[V1, V2, V3] w (fun e w' => e = .returned (.bool true) ∧ Keeps w w') := by
  obtain ⟨b3, A3, n3, c3, d3, B3, m3, e3, rfl⟩ := h1.open_
  obtain ⟨b4, A4, n4, c4, d4, B4, m4, e4, rfl⟩ := h2.open_
  obtain ⟨b5, A5, n5, c5, d5, B5, m5, e5, rfl⟩ := h3.open_
  have S := ((((St.start w).addL h1).addL h2).addL h3)
  clear h1 h2 h3
  go_enter Tryz.func4, Tryz.ntmps4
  go_wp2_with fail
  replace S := (((S.alloc 28 [.bool b3, .slice A3 n3 c3, .bool d3, .slice B3 m3 e3]).alloc 28 [.bool b4, .slice A4 n4 c4, .bool d4, .slice B4 m4 e4]).alloc 28 [.bool b5, .slice A5 n5 c5, .bool d5, .slice B5 m5 e5])
  simp only [World.size_alloc] at S
  obtain ⟨W1, eW, S⟩ := S.pack
  rw [eW]
  clear eW
  refine ((known_any _ (ht.keep S.k))).mono ?_
  rintro e W2 ⟨rfl, hk⟩
  replace S := S.below hk
  clear hk
  have r0_0 := S.c 2 0 rfl rfl
  have r0_1 := S.c 2 1 rfl rfl
  have r0_2 := S.c 2 2 rfl rfl
  have r0_3 := S.c 2 3 rfl rfl
  go_wp2_with fail
  refine ((lshort_b (S.li 2 rfl))).mono ?_
  rintro e W3 ⟨rfl, hk⟩
  replace S := S.below hk
  clear hk
  clear r0_0 r0_1 r0_2 r0_3
  go_wp2
  go_ret
  exact ⟨rfl, S.k⟩
set_option maxRecDepth 100000 in
set_option maxHeartbeats 1000000 in
theorem fld_2 {w : World} {V1 V2 V3 : Value} {x y z : Rat} {b3 : Bool} (h1 : RatS w V1 x true) (h2 : RatS w V2 y false) (h3 : RatS w V3 z b3)  (ht : PowTab w) : Calls Tryz.prog 4 #[V1, V2, V3] w (fun e w' => e = .returned (.bool true) ∧ Keeps w w') := by
  obtain ⟨b3, A3, n3, c3, d3, B3, m3, e3, rfl⟩ := h1.open_
  obtain ⟨b4, A4, n4, c4, d4, B4, m4, e4, rfl⟩ := h2.open_
  obtain ⟨b5, A5, n5, c5, d5, B5, m5, e5, rfl⟩ := h3.open_
  have S := ((((St.start w).addL h1).addL h2).addL h3)
  clear h1 h2 h3
  go_enter Tryz.func4, Tryz.ntmps4
  go_wp2_with fail
  replace S := (((S.alloc 28 [.bool b3, .slice A3 n3 c3, .bool d3, .slice B3 m3 e3]).alloc 28 [.bool b4, .slice A4 n4 c4, .bool d4, .slice B4 m4 e4]).alloc 28 [.bool b5, .slice A5 n5 c5, .bool d5, .slice B5 m5 e5])
  simp only [World.size_alloc] at S
  obtain ⟨W1, eW, S⟩ := S.pack
  rw [eW]
  clear eW
  refine ((known_any _ (ht.keep S.k))).mono ?_
  rintro e W2 ⟨rfl, hk⟩
  replace S := S.below hk
  clear hk
  have r0_0 := S.c 2 0 rfl rfl
  have r0_1 := S.c 2 1 rfl rfl
  have r0_2 := S.c 2 2 rfl rfl
  have r0_3 := S.c 2 3 rfl rfl
  go_wp2_with fail
  refine ((lshort_b (S.li 2 rfl))).mono ?_
  rintro e W3 ⟨rfl, hk⟩
  replace S := S.below hk
  clear hk
  clear r0_0 r0_1 r0_2 r0_3
  have r1_0 := S.c 1 0 rfl rfl
  have r1_1 := S.c 1 1 rfl rfl
  have r1_2 := S.c 1 2 rfl rfl
  have r1_3 := S.c 1 3 rfl rfl
  go_wp2_with fail
  refine ((lshort_b (S.li 1 rfl))).mono ?_
  rintro e W4 ⟨rfl, hk⟩
  replace S := S.below hk
  clear hk
  clear r1_0 r1_1 r1_2 r1_3
  go_wp2
  go_ret
  exact ⟨rfl, S.k⟩
set_option maxRecDepth 100000 in
set_option maxHeartbeats 1000000 in
theorem fld_3 {w : World} {V1 V2 V3 : Value} {x y z : Rat} (h1 : RatS w V1 x true) (h2 : RatS w V2 y true) (h3 : RatS w V3 z false)  (ht : PowTab w) : Calls Tryz.prog 4 #[V1, V2, V3] w (fun e w' => e = .returned (.bool true) ∧ Keeps w w') := by
  obtain ⟨b3, A3, n3, c3, d3, B3, m3, e3, rfl⟩ := h1.open_
  obtain ⟨b4, A4, n4, c4, d4, B4, m4, e4, rfl⟩ := h2.open_
  obtain ⟨b5, A5, n5, c5, d5, B5, m5, e5, rfl⟩ := h3.open_
  have S := ((((St.start w).addL h1).addL h2).addL h3)
  clear h1 h2 h3
  go_enter Tryz.func4, Tryz.ntmps4
  go_wp2_with fail
  replace S := (((S.alloc 28 [.bool b3, .slice A3 n3 c3, .bool d3, .slice B3 m3 e3]).alloc 28 [.bool b4, .slice A4 n4 c4, .bool d4, .slice B4 m4 e4]).alloc 28 [.bool b5, .slice A5 n5 c5, .bool d5, .slice B5 m5 e5])
  simp only [World.size_alloc] at S
  obtain ⟨W1, eW, S⟩ := S.pack
  rw [eW]
  clear eW
  refine ((known_any _ (ht.keep S.k))).mono ?_
  rintro e W2 ⟨rfl, hk⟩
  replace S := S.below hk
  clear hk
  have r0_0 := S.c 2 0 rfl rfl
  have r0_1 := S.c 2 1 rfl rfl
  have r0_2 := S.c 2 2 rfl rfl
  have r0_3 := S.c 2 3 rfl rfl
  go_wp2_with fail
  refine ((lshort_b (S.li 2 rfl))).mono ?_
  rintro e W3 ⟨rfl, hk⟩
  replace S := S.below hk
  clear hk
  clear r0_0 r0_1 r0_2 r0_3
  have r1_0 := S.c 1 0 rfl rfl
  have r1_1 := S.c 1 1 rfl rfl
  have r1_2 := S.c 1 2 rfl rfl
  have r1_3 := S.c 1 3 rfl rfl
  go_wp2_with fail
  refine ((lshort_b (S.li 1 rfl))).mono ?_
  rintro e W4 ⟨rfl, hk⟩
  replace S := S.below hk
  clear hk
  clear r1_0 r1_1 r1_2 r1_3
  have r2_0 := S.c 0 0 rfl rfl
  have r2_1 := S.c 0 1 rfl rfl
  have r2_2 := S.c 0 2 rfl rfl
  have r2_3 := S.c 0 3 rfl rfl
  go_wp2_with fail
  refine ((lshort_b (S.li 0 rfl))).mono ?_
  rintro e W5 ⟨rfl, hk⟩
  replace S := S.below hk
  clear hk
  clear r2_0 r2_1 r2_2 r2_3
  go_wp2
  go_ret
  exact ⟨rfl, S.k⟩
set_option maxRecDepth 100000 in
set_option maxHeartbeats 16000000 in
theorem fld_4 {w : World} {V1 V2 V3 : Value} {x y z : Rat} (h1 : RatS w V1 x true) (h2 : RatS w V2 y true) (h3 : RatS w V3 z true) (ht : PowTab w) : Calls Tryz.prog 4 #[V1, V2, V3] w (fun e w' => e = .returned (.bool true) ∧ Keeps w w') := by
  obtain ⟨b3, A3, n3, c3, d3, B3, m3, e3, rfl⟩ := h1.open_
  obtain ⟨b4, A4, n4, c4, d4, B4, m4, e4, rfl⟩ := h2.open_
  obtain ⟨b5, A5, n5, c5, d5, B5, m5, e5, rfl⟩ := h3.open_
  have z0 := h1.sz
  have z1 := h2.sz
  have z2 := h3.sz
  have y0 := szR_add x y
  have y1 := szR_add y x
  have y2 := szR_mul x y
  have y3 := szR_mul y x
  have y4 := szR_add (x + y) z
  have y5 := szR_add y z
  have y6 := szR_add x (y + z)
  have y7 := szR_mul (x * y) z
  have y8 := szR_mul y z
  have y9 := szR_mul x (y * z)
  have y10 := szR_mul x (y + z)
  have y11 := szR_mul x z
  have y12 := szR_add (x * y) (x * z)
  have y13 := Nat.le_of_eq (szR_neg x)
  have y14 := szR_add x (-x)
  have y15 := szR_sub (x + y) y
  have y16 := szR_add x z
  have y17 := szR_div' x y
  have y18 := szR_mul (x / y) y
  obtain ⟨s1, hs1⟩ : ∃ s, (x + (-x)).num.sign = s := ⟨_, rfl⟩
  obtain ⟨s2, hs2⟩ : ∃ s, y.num.sign = s := ⟨_, rfl⟩
  obtain ⟨s3, hs3⟩ : ∃ s, cmpR x y = s := ⟨_, rfl⟩
  obtain ⟨s4, hs4⟩ : ∃ s, cmpR y z = s := ⟨_, rfl⟩
  obtain ⟨s5, hs5⟩ : ∃ s, cmpR x z = s := ⟨_, rfl⟩
  have t1 : (s1 != 0) = false := by rw [← hs1, Rat.add_neg_cancel]; rfl
  have HS1 := Lib.hid hs1
  clear hs1
  have HS2 := Lib.hid hs2
  clear hs2
  have HS3 := Lib.hid hs3
  clear hs3
  have HS4 := Lib.hid hs4
  clear hs4
  have HS5 := Lib.hid hs5
  clear hs5
  have g3 : -1 ≤ s3 ∧ s3 ≤ 1 := by rw [← HS3.out]; exact cmp_abs x y
  have q3 : IntKind.i64.wrap s3 = s3 := IntWalk.i64_in _ (by omega)
  have HC := Lib.hid (show cmpR y x = -s3 by rw [cmpR_neg, HS3.out])
  have HD := Lib.hid (show cmpR (x + z) (y + z) = s3 by rw [cmp_add, HS3.out])
  have S := ((((St.start w).addL h1).addL h2).addL h3)
  clear h1 h2 h3
  go_enter Tryz.func4, Tryz.ntmps4
  go_wp2_with fail
  replace S := (((S.alloc 28 [.bool b3, .slice A3 n3 c3, .bool d3, .slice B3 m3 e3]).alloc 28 [.bool b4, .slice A4 n4 c4, .bool d4, .slice B4 m4 e4]).alloc 28 [.bool b5, .slice A5 n5 c5, .bool d5, .slice B5 m5 e5])
  simp only [World.size_alloc] at S
  obtain ⟨W1, eW, S⟩ := S.pack
  rw [eW]
  clear eW
  refine ((known_any _ (ht.keep S.k))).mono ?_
  rintro e W2 ⟨rfl, hk⟩
  replace S := S.below hk
  clear hk
  have r0_0 := S.c 2 0 rfl rfl
  have r0_1 := S.c 2 1 rfl rfl
  have r0_2 := S.c 2 2 rfl rfl
  have r0_3 := S.c 2 3 rfl rfl
  go_wp2_with fail
  refine ((lshort_b (S.li 2 rfl))).mono ?_
  rintro e W3 ⟨rfl, hk⟩
  replace S := S.below hk
  clear hk
  clear r0_0 r0_1 r0_2 r0_3
  have r1_0 := S.c 1 0 rfl rfl
  have r1_1 := S.c 1 1 rfl rfl
  have r1_2 := S.c 1 2 rfl rfl
  have r1_3 := S.c 1 3 rfl rfl
  go_wp2_with fail
  refine ((lshort_b (S.li 1 rfl))).mono ?_
  rintro e W4 ⟨rfl, hk⟩
  replace S := S.below hk
  clear hk
  clear r1_0 r1_1 r1_2 r1_3
  have r2_0 := S.c 0 0 rfl rfl
  have r2_1 := S.c 0 1 rfl rfl
  have r2_2 := S.c 0 2 rfl rfl
  have r2_3 := S.c 0 3 rfl rfl
  go_wp2_with fail
  refine ((lshort_b (S.li 0 rfl))).mono ?_
  rintro e W5 ⟨rfl, hk⟩
  replace S := S.below hk
  clear hk
  clear r2_0 r2_1 r2_2 r2_3
  go_upto_region 7 with fail
  refine wp_region_steps (m := 84) rfl (by kernel_rfl) (fun iΦ vΦ wΦ => (List.getD [fun vΦ _ => vΦ = .func (.func 31) #[] #[], fun vΦ _ => vΦ = .func (.func 29) #[] #[], fun vΦ _ => vΦ = .agg #[.bool b3, .slice A3 n3 c3, .bool d3, .slice B3 m3 e3], fun vΦ _ => vΦ = .agg #[.bool b4, .slice A4 n4 c4, .bool d4, .slice B4 m4 e4], fun vΦ wΦ => RatRep wΦ vΦ (x + y), fun vΦ _ => vΦ = .func (.func 29) #[] #[], fun vΦ _ => vΦ = .agg #[.bool b4, .slice A4 n4 c4, .bool d4, .slice B4 m4 e4], fun vΦ _ => vΦ = .agg #[.bool b3, .slice A3 n3 c3, .bool d3, .slice B3 m3 e3], fun vΦ wΦ => RatRep wΦ vΦ (y + x), fun vΦ _ => vΦ = .bool true, fun vΦ _ => vΦ = .bool false, fun vΦ _ => vΦ = .bool false, fun vΦ _ => vΦ = .func (.func 31) #[] #[], fun vΦ _ => vΦ = .func (.func 30) #[] #[], fun vΦ _ => vΦ = .agg #[.bool b3, .slice A3 n3 c3, .bool d3, .slice B3 m3 e3], fun vΦ _ => vΦ = .agg #[.bool b4, .slice A4 n4 c4, .bool d4, .slice B4 m4 e4], fun vΦ wΦ => RatRep wΦ vΦ (x * y), fun vΦ _ => vΦ = .func (.func 30) #[] #[], fun vΦ _ => vΦ = .agg #[.bool b4, .slice A4 n4 c4, .bool d4, .slice B4 m4 e4], fun vΦ _ => vΦ = .agg #[.bool b3, .slice A3 n3 c3, .bool d3, .slice B3 m3 e3], fun vΦ wΦ => RatRep wΦ vΦ (y * x), fun vΦ _ => vΦ = .bool true, fun vΦ _ => vΦ = .bool false, fun vΦ _ => vΦ = .bool false, fun vΦ _ => vΦ = .bool false, fun vΦ _ => vΦ = .func (.func 31) #[] #[], fun vΦ _ => vΦ = .func (.func 29) #[] #[], fun vΦ _ => vΦ = .func (.func 29) #[] #[], fun vΦ _ => vΦ = .agg #[.bool b3, .slice A3 n3 c3, .bool d3, .slice B3 m3 e3], fun vΦ _ => vΦ = .agg #[.bool b4, .slice A4 n4 c4, .bool d4, .slice B4 m4 e4], fun vΦ wΦ => RatRep wΦ vΦ (x + y), fun vΦ _ => vΦ = .agg #[.bool b5, .slice A5 n5 c5, .bool d5, .slice B5 m5 e5], fun vΦ wΦ => RatRep wΦ vΦ ((x + y) + z), fun vΦ _ => vΦ = .func (.func 29) #[] #[], fun vΦ _ => vΦ = .agg #[.bool b3, .slice A3 n3 c3, .bool d3, .slice B3 m3 e3], fun vΦ _ => vΦ = .func (.func 29) #[] #[], fun vΦ _ => vΦ = .agg #[.bool b4, .slice A4 n4 c4, .bool d4, .slice B4 m4 e4], fun vΦ _ => vΦ = .agg #[.bool b5, .slice A5 n5 c5, .bool d5, .slice B5 m5 e5], fun vΦ wΦ => RatRep wΦ vΦ (y + z), fun vΦ wΦ => RatRep wΦ vΦ (x + (y + z)), fun vΦ _ => vΦ = .bool true, fun vΦ _ => vΦ = .bool false, fun vΦ _ => vΦ = .bool false, fun vΦ _ => vΦ = .bool false, fun vΦ _ => vΦ = .func (.func 31) #[] #[], fun vΦ _ => vΦ = .func (.func 30) #[] #[], fun vΦ _ => vΦ = .func (.func 30) #[] #[], fun vΦ _ => vΦ = .agg #[.bool b3, .slice A3 n3 c3, .bool d3, .slice B3 m3 e3], fun vΦ _ => vΦ = .agg #[.bool b4, .slice A4 n4 c4, .bool d4, .slice B4 m4 e4], fun vΦ wΦ => RatRep wΦ vΦ (x * y), fun vΦ _ => vΦ = .agg #[.bool b5, .slice A5 n5 c5, .bool d5, .slice B5 m5 e5], fun vΦ wΦ => RatRep wΦ vΦ ((x * y) * z), fun vΦ _ => vΦ = .func (.func 30) #[] #[], fun vΦ _ => vΦ = .agg #[.bool b3, .slice A3 n3 c3, .bool d3, .slice B3 m3 e3], fun vΦ _ => vΦ = .func (.func 30) #[] #[], fun vΦ _ => vΦ = .agg #[.bool b4, .slice A4 n4 c4, .bool d4, .slice B4 m4 e4], fun vΦ _ => vΦ = .agg #[.bool b5, .slice A5 n5 c5, .bool d5, .slice B5 m5 e5], fun vΦ wΦ => RatRep wΦ vΦ (y * z), fun vΦ wΦ => RatRep wΦ vΦ (x * (y * z)), fun vΦ _ => vΦ = .bool true, fun vΦ _ => vΦ = .bool false, fun vΦ _ => vΦ = .bool false, fun vΦ _ => vΦ = .bool false, fun vΦ _ => vΦ = .func (.func 31) #[] #[], fun vΦ _ => vΦ = .func (.func 30) #[] #[], fun vΦ _ => vΦ = .agg #[.bool b3, .slice A3 n3 c3, .bool d3, .slice B3 m3 e3], fun vΦ _ => vΦ = .func (.func 29) #[] #[], fun vΦ _ => vΦ = .agg #[.bool b4, .slice A4 n4 c4, .bool d4, .slice B4 m4 e4], fun vΦ _ => vΦ = .agg #[.bool b5, .slice A5 n5 c5, .bool d5, .slice B5 m5 e5], fun vΦ wΦ => RatRep wΦ vΦ (y + z), fun vΦ wΦ => RatRep wΦ vΦ (x * (y + z)), fun vΦ _ => vΦ = .func (.func 29) #[] #[], fun vΦ _ => vΦ = .func (.func 30) #[] #[], fun vΦ _ => vΦ = .agg #[.bool b3, .slice A3 n3 c3, .bool d3, .slice B3 m3 e3], fun vΦ _ => vΦ = .agg #[.bool b4, .slice A4 n4 c4, .bool d4, .slice B4 m4 e4], fun vΦ wΦ => RatRep wΦ vΦ (x * y), fun vΦ _ => vΦ = .func (.func 30) #[] #[], fun vΦ _ => vΦ = .agg #[.bool b3, .slice A3 n3 c3, .bool d3, .slice B3 m3 e3], fun vΦ _ => vΦ = .agg #[.bool b5, .slice A5 n5 c5, .bool d5, .slice B5 m5 e5], fun vΦ wΦ => RatRep wΦ vΦ (x * z), fun vΦ wΦ => RatRep wΦ vΦ ((x * y) + (x * z)), fun vΦ _ => vΦ = .bool true, fun vΦ _ => vΦ = .bool false, fun vΦ _ => vΦ = .bool false] iΦ (fun _ _ => True)) vΦ wΦ) [] ?_ ?_ ?_
  · intro i v w w' _ h hk
    refine stabL_get ?_ i v w w' h hk
    exact stab_cons st_e (stab_cons st_e (stab_cons st_e (stab_cons st_e (stab_cons st_q (stab_cons st_e (stab_cons st_e (stab_cons st_e (stab_cons st_q (stab_cons st_e (stab_cons st_e (stab_cons st_e (stab_cons st_e (stab_cons st_e (stab_cons st_e (stab_cons st_e (stab_cons st_q (stab_cons st_e (stab_cons st_e (stab_cons st_e (stab_cons st_q (stab_cons st_e (stab_cons st_e (stab_cons st_e (stab_cons st_e (stab_cons st_e (stab_cons st_e (stab_cons st_e (stab_cons st_e (stab_cons st_e (stab_cons st_q (stab_cons st_e (stab_cons st_q (stab_cons st_e (stab_cons st_e (stab_cons st_e (stab_cons st_e (stab_cons st_e (stab_cons st_q (stab_cons st_q (stab_cons st_e (stab_cons st_e (stab_cons st_e (stab_cons st_e (stab_cons st_e (stab_cons st_e (stab_cons st_e (stab_cons st_e (stab_cons st_e (stab_cons st_q (stab_cons st_e (stab_cons st_q (stab_cons st_e (stab_cons st_e (stab_cons st_e (stab_cons st_e (stab_cons st_e (stab_cons st_q (stab_cons st_q (stab_cons st_e (stab_cons st_e (stab_cons st_e (stab_cons st_e (stab_cons st_e (stab_cons st_e (stab_cons st_e (stab_cons st_e (stab_cons st_e (stab_cons st_e (stab_cons st_q (stab_cons st_q (stab_cons st_e (stab_cons st_e (stab_cons st_e (stab_cons st_e (stab_cons st_q (stab_cons st_e (stab_cons st_e (stab_cons st_e (stab_cons st_q (stab_cons st_q (stab_cons st_e (stab_cons st_e (stab_cons st_e stab_nil)))))))))))))))))))))))))))))))))))))))))))))))))))))))))))))))))))))))))))))))))))
  · intro i hi vs w3 hk3 hd
    have S3 := S.drew.below hk3
    have a0 := S3.c 2 0 rfl rfl
    have a1 := S3.c 2 1 rfl rfl
    have a2 := S3.c 2 2 rfl rfl
    have a3 := S3.c 2 3 rfl rfl
    have a4 := S3.c 1 0 rfl rfl
    have a5 := S3.c 1 1 rfl rfl
    have a6 := S3.c 1 2 rfl rfl
    have a7 := S3.c 1 3 rfl rfl
    have a8 := S3.c 0 0 rfl rfl
    have a9 := S3.c 0 1 rfl rfl
    have a10 := S3.c 0 2 rfl rfl
    have a11 := S3.c 0 3 rfl rfl
    match i, hi with
    | 0, _ =>
      refine step_val0 [] (fun vΦ _ => vΦ = .func (.func 31) #[] #[]) rfl (by kernel_rfl) rfl (fun _ _ h => h) rfl fun K hK => ?_; clear hd; simp only [frD] at hK ⊢; go_simp
      exact hK _ _ (Below.refl _ _) rfl
    | 1, _ =>
      refine step_val0 [] (fun vΦ _ => vΦ = .func (.func 29) #[] #[]) rfl (by kernel_rfl) rfl (fun _ _ h => h) rfl fun K hK => ?_; clear hd; simp only [frD] at hK ⊢; go_simp
      exact hK _ _ (Below.refl _ _) rfl
    | 2, _ =>
      refine step_val0 [] (fun vΦ _ => vΦ = .agg #[.bool b3, .slice A3 n3 c3, .bool d3, .slice B3 m3 e3]) rfl (by kernel_rfl) rfl (fun _ _ h => h) rfl fun K hK => ?_; clear hd; simp only [frD] at hK ⊢; go_simp
      exact hK _ _ (Below.refl _ _) rfl
    | 3, _ =>
      refine step_val0 [] (fun vΦ _ => vΦ = .agg #[.bool b4, .slice A4 n4 c4, .bool d4, .slice B4 m4 e4]) rfl (by kernel_rfl) rfl (fun _ _ h => h) rfl fun K hK => ?_; clear hd; simp only [frD] at hK ⊢; go_simp
      exact hK _ _ (Below.refl _ _) rfl
    | 4, _ =>
      have qe1 : (vs 1) = .func (.func 29) #[] #[] := hd 1 (cm (by kernel_rfl)); have qe2 : (vs 2) = .agg #[.bool b3, .slice A3 n3 c3, .bool d3, .slice B3 m3 e3] := hd 2 (cm (by kernel_rfl)); have qe3 : (vs 3) = .agg #[.bool b4, .slice A4 n4 c4, .bool d4, .slice B4 m4 e4] := hd 3 (cm (by kernel_rfl))
      refine step_call (F := 29) (X := (vs 1)) (A := #[(vs 2), (vs 3)]) (B := #[.agg #[.bool b3, .slice A3 n3 c3, .bool d3, .slice B3 m3 e3], .agg #[.bool b4, .slice A4 n4 c4, .bool d4, .slice B4 m4 e4]]) [(1, some 28), (2, some 29), (3, some 30)] (fun vΦ wΦ => RatRep wΦ vΦ (x + y)) rfl (by kernel_rfl) (fun _ _ h => h) rfl (wanted_none rfl) rfl rfl (by kernel_rfl) qe1 (by kernel_rfl) (by rw [qe2, qe3]) Tryz.func29 (by kernel_rfl) (by kernel_rfl) ?_
      refine ((fadd_num ((S3.li 2 rfl).num) ((S3.li 1 rfl).num))).mono ?_; rintro e w4 ⟨U, rfl, hr, hk4⟩; exact ⟨_, rfl, hk4, hr⟩
    | 5, _ =>
      refine step_val0 [] (fun vΦ _ => vΦ = .func (.func 29) #[] #[]) rfl (by kernel_rfl) rfl (fun _ _ h => h) rfl fun K hK => ?_; clear hd; simp only [frD] at hK ⊢; go_simp
      exact hK _ _ (Below.refl _ _) rfl
    | 6, _ =>
      refine step_val0 [] (fun vΦ _ => vΦ = .agg #[.bool b4, .slice A4 n4 c4, .bool d4, .slice B4 m4 e4]) rfl (by kernel_rfl) rfl (fun _ _ h => h) rfl fun K hK => ?_; clear hd; simp only [frD] at hK ⊢; go_simp
      exact hK _ _ (Below.refl _ _) rfl
    | 7, _ =>
      refine step_val0 [] (fun vΦ _ => vΦ = .agg #[.bool b3, .slice A3 n3 c3, .bool d3, .slice B3 m3 e3]) rfl (by kernel_rfl) rfl (fun _ _ h => h) rfl fun K hK => ?_; clear hd; simp only [frD] at hK ⊢; go_simp
      exact hK _ _ (Below.refl _ _) rfl
    | 8, _ =>
      have h4 : RatRep w3 (vs 4) (x + y) := hd 4 (cm (by kernel_rfl)); have qe5 : (vs 5) = .func (.func 29) #[] #[] := hd 5 (cm (by kernel_rfl)); have qe6 : (vs 6) = .agg #[.bool b4, .slice A4 n4 c4, .bool d4, .slice B4 m4 e4] := hd 6 (cm (by kernel_rfl)); have qe7 : (vs 7) = .agg #[.bool b3, .slice A3 n3 c3, .bool d3, .slice B3 m3 e3] := hd 7 (cm (by kernel_rfl))
      refine step_call (F := 29) (X := (vs 5)) (A := #[(vs 6), (vs 7)]) (B := #[.agg #[.bool b4, .slice A4 n4 c4, .bool d4, .slice B4 m4 e4], .agg #[.bool b3, .slice A3 n3 c3, .bool d3, .slice B3 m3 e3]]) [(4, some 31), (5, some 32), (6, some 33), (7, some 34)] (fun vΦ wΦ => RatRep wΦ vΦ (y + x)) rfl (by kernel_rfl) (fun _ _ h => h) rfl (wanted_none rfl) rfl rfl (by kernel_rfl) qe5 (by kernel_rfl) (by rw [qe6, qe7]) Tryz.func29 (by kernel_rfl) (by kernel_rfl) ?_
      refine ((fadd_num ((S3.li 1 rfl).num) ((S3.li 2 rfl).num))).mono ?_; rintro e w4 ⟨U, rfl, hr, hk4⟩; exact ⟨_, rfl, hk4, hr⟩
    | 9, _ =>
      have qe0 : (vs 0) = .func (.func 31) #[] #[] := hd 0 (cm (by kernel_rfl)); have h4 : RatRep w3 (vs 4) (x + y) := hd 4 (cm (by kernel_rfl)); have h8 : RatRep w3 (vs 8) (y + x) := hd 8 (cm (by kernel_rfl))
      refine step_call (F := 31) (X := (vs 0)) (A := #[(vs 4), (vs 8)]) (B := #[(vs 4), (vs 8)]) [(0, some 27), (4, some 31), (8, some 35)] (fun vΦ _ => vΦ = .bool true) rfl (by kernel_rfl) (fun _ _ h => h) rfl (wanted_none rfl) rfl rfl (by kernel_rfl) qe0 (by kernel_rfl) rfl Tryz.func31 (by kernel_rfl) (by kernel_rfl) ?_
      refine ((feq_s (h4.num (by omega)) (h8.num (by omega)) (Rat.add_comm x y))).mono ?_; rintro e w4 ⟨rfl, hk4⟩; exact ⟨_, rfl, hk4, rfl⟩
    | 10, _ =>
      have qe9 : (vs 9) = .bool true := hd 9 (cm (by kernel_rfl))
      refine step_val0 [(9, some 36)] (fun vΦ _ => vΦ = .bool false) rfl (by kernel_rfl) rfl (fun _ _ h => h) rfl fun K hK => ?_; clear hd; simp only [frD, qe9] at hK ⊢; go_simp
      exact hK _ _ (Below.refl _ _) rfl
    | 11, _ =>
      have qe9 : (vs 9) = .bool true := hd 9 (cm (by kernel_rfl)); have qe10 : (vs 10) = .bool false := hd 10 (cm (by kernel_rfl))
      refine step_val0 [(9, some 36), (10, some 37)] (fun vΦ _ => vΦ = .bool false) rfl (by kernel_rfl) rfl (fun _ _ h => h) rfl fun K hK => ?_; clear hd; simp only [frD, qe9, qe10] at hK ⊢; go_simp
      exact hK _ _ (Below.refl _ _) rfl
    | 12, _ =>
      have qe11 : (vs 11) = .bool false := hd 11 (cm (by kernel_rfl))
      refine step_valg [(11, some 38)] (fun vΦ _ => vΦ = .func (.func 31) #[] #[]) rfl (by kernel_rfl) (fun _ _ h => h) rfl (wanted_some 38 rfl (by rfl) (by kernel_rfl) qe11) fun K hK => ?_; clear hd; simp only [frD, qe11] at hK ⊢; go_simp
      exact hK _ _ (Below.refl _ _) rfl
    | 13, _ =>
      have qe11 : (vs 11) = .bool false := hd 11 (cm (by kernel_rfl))
      refine step_valg [(11, some 38)] (fun vΦ _ => vΦ = .func (.func 30) #[] #[]) rfl (by kernel_rfl) (fun _ _ h => h) rfl (wanted_some 38 rfl (by rfl) (by kernel_rfl) qe11) fun K hK => ?_; clear hd; simp only [frD, qe11] at hK ⊢; go_simp
      exact hK _ _ (Below.refl _ _) rfl
    | 14, _ =>
      have qe11 : (vs 11) = .bool false := hd 11 (cm (by kernel_rfl))
      refine step_valg [(11, some 38)] (fun vΦ _ => vΦ = .agg #[.bool b3, .slice A3 n3 c3, .bool d3, .slice B3 m3 e3]) rfl (by kernel_rfl) (fun _ _ h => h) rfl (wanted_some 38 rfl (by rfl) (by kernel_rfl) qe11) fun K hK => ?_; clear hd; simp only [frD, qe11] at hK ⊢; go_simp
      exact hK _ _ (Below.refl _ _) rfl
    | 15, _ =>
      have qe11 : (vs 11) = .bool false := hd 11 (cm (by kernel_rfl))
      refine step_valg [(11, some 38)] (fun vΦ _ => vΦ = .agg #[.bool b4, .slice A4 n4 c4, .bool d4, .slice B4 m4 e4]) rfl (by kernel_rfl) (fun _ _ h => h) rfl (wanted_some 38 rfl (by rfl) (by kernel_rfl) qe11) fun K hK => ?_; clear hd; simp only [frD, qe11] at hK ⊢; go_simp
      exact hK _ _ (Below.refl _ _) rfl
    | 16, _ =>
      have qe11 : (vs 11) = .bool false := hd 11 (cm (by kernel_rfl)); have qe13 : (vs 13) = .func (.func 30) #[] #[] := hd 13 (cm (by kernel_rfl)); have qe14 : (vs 14) = .agg #[.bool b3, .slice A3 n3 c3, .bool d3, .slice B3 m3 e3] := hd 14 (cm (by kernel_rfl)); have qe15 : (vs 15) = .agg #[.bool b4, .slice A4 n4 c4, .bool d4, .slice B4 m4 e4] := hd 15 (cm (by kernel_rfl))
      refine step_call (F := 30) (X := (vs 13)) (A := #[(vs 14), (vs 15)]) (B := #[.agg #[.bool b3, .slice A3 n3 c3, .bool d3, .slice B3 m3 e3], .agg #[.bool b4, .slice A4 n4 c4, .bool d4, .slice B4 m4 e4]]) [(11, some 38), (13, some 40), (14, some 41), (15, some 42)] (fun vΦ wΦ => RatRep wΦ vΦ (x * y)) rfl (by kernel_rfl) (fun _ _ h => h) rfl (wanted_some 38 rfl (by rfl) (by kernel_rfl) qe11) rfl rfl (by kernel_rfl) qe13 (by kernel_rfl) (by rw [qe14, qe15]) Tryz.func30 (by kernel_rfl) (by kernel_rfl) ?_
      refine ((fmul_num ((S3.li 2 rfl).num) ((S3.li 1 rfl).num))).mono ?_; rintro e w4 ⟨U, rfl, hr, hk4⟩; exact ⟨_, rfl, hk4, hr⟩
    | 17, _ =>
      have qe11 : (vs 11) = .bool false := hd 11 (cm (by kernel_rfl))
      refine step_valg [(11, some 38)] (fun vΦ _ => vΦ = .func (.func 30) #[] #[]) rfl (by kernel_rfl) (fun _ _ h => h) rfl (wanted_some 38 rfl (by rfl) (by kernel_rfl) qe11) fun K hK => ?_; clear hd; simp only [frD, qe11] at hK ⊢; go_simp
      exact hK _ _ (Below.refl _ _) rfl
    | 18, _ =>
      have qe11 : (vs 11) = .bool false := hd 11 (cm (by kernel_rfl))
      refine step_valg [(11, some 38)] (fun vΦ _ => vΦ = .agg #[.bool b4, .slice A4 n4 c4, .bool d4, .slice B4 m4 e4]) rfl (by kernel_rfl) (fun _ _ h => h) rfl (wanted_some 38 rfl (by rfl) (by kernel_rfl) qe11) fun K hK => ?_; clear hd; simp only [frD, qe11] at hK ⊢; go_simp
      exact hK _ _ (Below.refl _ _) rfl
    | 19, _ =>
      have qe11 : (vs 11) = .bool false := hd 11 (cm (by kernel_rfl))
      refine step_valg [(11, some 38)] (fun vΦ _ => vΦ = .agg #[.bool b3, .slice A3 n3 c3, .bool d3, .slice B3 m3 e3]) rfl (by kernel_rfl) (fun _ _ h => h) rfl (wanted_some 38 rfl (by rfl) (by kernel_rfl) qe11) fun K hK => ?_; clear hd; simp only [frD, qe11] at hK ⊢; go_simp
      exact hK _ _ (Below.refl _ _) rfl
    | 20, _ =>
      have qe11 : (vs 11) = .bool false := hd 11 (cm (by kernel_rfl)); have h16 : RatRep w3 (vs 16) (x * y) := hd 16 (cm (by kernel_rfl)); have qe17 : (vs 17) = .func (.func 30) #[] #[] := hd 17 (cm (by kernel_rfl)); have qe18 : (vs 18) = .agg #[.bool b4, .slice A4 n4 c4, .bool d4, .slice B4 m4 e4] := hd 18 (cm (by kernel_rfl)); have qe19 : (vs 19) = .agg #[.bool b3, .slice A3 n3 c3, .bool d3, .slice B3 m3 e3] := hd 19 (cm (by kernel_rfl))
      refine step_call (F := 30) (X := (vs 17)) (A := #[(vs 18), (vs 19)]) (B := #[.agg #[.bool b4, .slice A4 n4 c4, .bool d4, .slice B4 m4 e4], .agg #[.bool b3, .slice A3 n3 c3, .bool d3, .slice B3 m3 e3]]) [(11, some 38), (16, some 43), (17, some 44), (18, some 45), (19, some 46)] (fun vΦ wΦ => RatRep wΦ vΦ (y * x)) rfl (by kernel_rfl) (fun _ _ h => h) rfl (wanted_some 38 rfl (by rfl) (by kernel_rfl) qe11) rfl rfl (by kernel_rfl) qe17 (by kernel_rfl) (by rw [qe18, qe19]) Tryz.func30 (by kernel_rfl) (by kernel_rfl) ?_
      refine ((fmul_num ((S3.li 1 rfl).num) ((S3.li 2 rfl).num))).mono ?_; rintro e w4 ⟨U, rfl, hr, hk4⟩; exact ⟨_, rfl, hk4, hr⟩
    | 21, _ =>
      have qe11 : (vs 11) = .bool false := hd 11 (cm (by kernel_rfl)); have qe12 : (vs 12) = .func (.func 31) #[] #[] := hd 12 (cm (by kernel_rfl)); have h16 : RatRep w3 (vs 16) (x * y) := hd 16 (cm (by kernel_rfl)); have h20 : RatRep w3 (vs 20) (y * x) := hd 20 (cm (by kernel_rfl))
      refine step_call (F := 31) (X := (vs 12)) (A := #[(vs 16), (vs 20)]) (B := #[(vs 16), (vs 20)]) [(11, some 38), (12, some 39), (16, some 43), (20, some 47)] (fun vΦ _ => vΦ = .bool true) rfl (by kernel_rfl) (fun _ _ h => h) rfl (wanted_some 38 rfl (by rfl) (by kernel_rfl) qe11) rfl rfl (by kernel_rfl) qe12 (by kernel_rfl) rfl Tryz.func31 (by kernel_rfl) (by kernel_rfl) ?_
      refine ((feq_s (h16.num (by omega)) (h20.num (by omega)) (Rat.mul_comm x y))).mono ?_; rintro e w4 ⟨rfl, hk4⟩; exact ⟨_, rfl, hk4, rfl⟩
    | 22, _ =>
      have qe11 : (vs 11) = .bool false := hd 11 (cm (by kernel_rfl)); have qe21 : (vs 21) = .bool true := hd 21 (cm (by kernel_rfl))
      refine step_valg [(11, some 38), (21, some 48)] (fun vΦ _ => vΦ = .bool false) rfl (by kernel_rfl) (fun _ _ h => h) rfl (wanted_some 38 rfl (by rfl) (by kernel_rfl) qe11) fun K hK => ?_; clear hd; simp only [frD, qe11, qe21] at hK ⊢; go_simp
      exact hK _ _ (Below.refl _ _) rfl
    | 23, _ =>
      have qe11 : (vs 11) = .bool false := hd 11 (cm (by kernel_rfl)); have qe22 : (vs 22) = .bool false := hd 22 (cm (by kernel_rfl))
      refine step_val0 [(11, some 38), (22, some 49)] (fun vΦ _ => vΦ = .bool false) rfl (by kernel_rfl) rfl (fun _ _ h => h) rfl fun K hK => ?_; clear hd; simp only [frD, qe11, qe22] at hK ⊢; go_simp
      exact hK _ _ (Below.refl _ _) rfl
    | 24, _ =>
      have qe21 : (vs 21) = .bool true := hd 21 (cm (by kernel_rfl)); have qe23 : (vs 23) = .bool false := hd 23 (cm (by kernel_rfl))
      refine step_val0 [(21, some 48), (23, some 50)] (fun vΦ _ => vΦ = .bool false) rfl (by kernel_rfl) rfl (fun _ _ h => h) rfl fun K hK => ?_; clear hd; simp only [frD, qe21, qe23] at hK ⊢; go_simp
      exact hK _ _ (Below.refl _ _) rfl
    | 25, _ =>
      have qe24 : (vs 24) = .bool false := hd 24 (cm (by kernel_rfl))
      refine step_valg [(24, some 51)] (fun vΦ _ => vΦ = .func (.func 31) #[] #[]) rfl (by kernel_rfl) (fun _ _ h => h) rfl (wanted_some 51 rfl (by rfl) (by kernel_rfl) qe24) fun K hK => ?_; clear hd; simp only [frD, qe24] at hK ⊢; go_simp
      exact hK _ _ (Below.refl _ _) rfl
    | 26, _ =>
      have qe24 : (vs 24) = .bool false := hd 24 (cm (by kernel_rfl))
      refine step_valg [(24, some 51)] (fun vΦ _ => vΦ = .func (.func 29) #[] #[]) rfl (by kernel_rfl) (fun _ _ h => h) rfl (wanted_some 51 rfl (by rfl) (by kernel_rfl) qe24) fun K hK => ?_; clear hd; simp only [frD, qe24] at hK ⊢; go_simp
      exact hK _ _ (Below.refl _ _) rfl
    | 27, _ =>
      have qe24 : (vs 24) = .bool false := hd 24 (cm (by kernel_rfl))
      refine step_valg [(24, some 51)] (fun vΦ _ => vΦ = .func (.func 29) #[] #[]) rfl (by kernel_rfl) (fun _ _ h => h) rfl (wanted_some 51 rfl (by rfl) (by kernel_rfl) qe24) fun K hK => ?_; clear hd; simp only [frD, qe24] at hK ⊢; go_simp
      exact hK _ _ (Below.refl _ _) rfl
    | 28, _ =>
      have qe24 : (vs 24) = .bool false := hd 24 (cm (by kernel_rfl))
      refine step_valg [(24, some 51)] (fun vΦ _ => vΦ = .agg #[.bool b3, .slice A3 n3 c3, .bool d3, .slice B3 m3 e3]) rfl (by kernel_rfl) (fun _ _ h => h) rfl (wanted_some 51 rfl (by rfl) (by kernel_rfl) qe24) fun K hK => ?_; clear hd; simp only [frD, qe24] at hK ⊢; go_simp
      exact hK _ _ (Below.refl _ _) rfl
    | 29, _ =>
      have qe24 : (vs 24) = .bool false := hd 24 (cm (by kernel_rfl))
      refine step_valg [(24, some 51)] (fun vΦ _ => vΦ = .agg #[.bool b4, .slice A4 n4 c4, .bool d4, .slice B4 m4 e4]) rfl (by kernel_rfl) (fun _ _ h => h) rfl (wanted_some 51 rfl (by rfl) (by kernel_rfl) qe24) fun K hK => ?_; clear hd; simp only [frD, qe24] at hK ⊢; go_simp
      exact hK _ _ (Below.refl _ _) rfl
    | 30, _ =>
      have qe24 : (vs 24) = .bool false := hd 24 (cm (by kernel_rfl)); have qe27 : (vs 27) = .func (.func 29) #[] #[] := hd 27 (cm (by kernel_rfl)); have qe28 : (vs 28) = .agg #[.bool b3, .slice A3 n3 c3, .bool d3, .slice B3 m3 e3] := hd 28 (cm (by kernel_rfl)); have qe29 : (vs 29) = .agg #[.bool b4, .slice A4 n4 c4, .bool d4, .slice B4 m4 e4] := hd 29 (cm (by kernel_rfl))
      refine step_call (F := 29) (X := (vs 27)) (A := #[(vs 28), (vs 29)]) (B := #[.agg #[.bool b3, .slice A3 n3 c3, .bool d3, .slice B3 m3 e3], .agg #[.bool b4, .slice A4 n4 c4, .bool d4, .slice B4 m4 e4]]) [(24, some 51), (27, some 54), (28, some 55), (29, some 56)] (fun vΦ wΦ => RatRep wΦ vΦ (x + y)) rfl (by kernel_rfl) (fun _ _ h => h) rfl (wanted_some 51 rfl (by rfl) (by kernel_rfl) qe24) rfl rfl (by kernel_rfl) qe27 (by kernel_rfl) (by rw [qe28, qe29]) Tryz.func29 (by kernel_rfl) (by kernel_rfl) ?_
      refine ((fadd_num ((S3.li 2 rfl).num) ((S3.li 1 rfl).num))).mono ?_; rintro e w4 ⟨U, rfl, hr, hk4⟩; exact ⟨_, rfl, hk4, hr⟩
    | 31, _ =>
      have qe24 : (vs 24) = .bool false := hd 24 (cm (by kernel_rfl))
      refine step_valg [(24, some 51)] (fun vΦ _ => vΦ = .agg #[.bool b5, .slice A5 n5 c5, .bool d5, .slice B5 m5 e5]) rfl (by kernel_rfl) (fun _ _ h => h) rfl (wanted_some 51 rfl (by rfl) (by kernel_rfl) qe24) fun K hK => ?_; clear hd; simp only [frD, qe24] at hK ⊢; go_simp
      exact hK _ _ (Below.refl _ _) rfl
    | 32, _ =>
      have qe24 : (vs 24) = .bool false := hd 24 (cm (by kernel_rfl)); have qe26 : (vs 26) = .func (.func 29) #[] #[] := hd 26 (cm (by kernel_rfl)); have h30 : RatRep w3 (vs 30) (x + y) := hd 30 (cm (by kernel_rfl)); have qe31 : (vs 31) = .agg #[.bool b5, .slice A5 n5 c5, .bool d5, .slice B5 m5 e5] := hd 31 (cm (by kernel_rfl))
      refine step_call (F := 29) (X := (vs 26)) (A := #[(vs 30), (vs 31)]) (B := #[(vs 30), .agg #[.bool b5, .slice A5 n5 c5, .bool d5, .slice B5 m5 e5]]) [(24, some 51), (26, some 53), (30, some 57), (31, some 58)] (fun vΦ wΦ => RatRep wΦ vΦ ((x + y) + z)) rfl (by kernel_rfl) (fun _ _ h => h) rfl (wanted_some 51 rfl (by rfl) (by kernel_rfl) qe24) rfl rfl (by kernel_rfl) qe26 (by kernel_rfl) (by rw [qe31]) Tryz.func29 (by kernel_rfl) (by kernel_rfl) ?_
      refine ((fadd_num (h30.num (by omega)) ((S3.li 0 rfl).num))).mono ?_; rintro e w4 ⟨U, rfl, hr, hk4⟩; exact ⟨_, rfl, hk4, hr⟩
    | 33, _ =>
      have qe24 : (vs 24) = .bool false := hd 24 (cm (by kernel_rfl))
      refine step_valg [(24, some 51)] (fun vΦ _ => vΦ = .func (.func 29) #[] #[]) rfl (by kernel_rfl) (fun _ _ h => h) rfl (wanted_some 51 rfl (by rfl) (by kernel_rfl) qe24) fun K hK => ?_; clear hd; simp only [frD, qe24] at hK ⊢; go_simp
      exact hK _ _ (Below.refl _ _) rfl
    | 34, _ =>
      have qe24 : (vs 24) = .bool false := hd 24 (cm (by kernel_rfl))
      refine step_valg [(24, some 51)] (fun vΦ _ => vΦ = .agg #[.bool b3, .slice A3 n3 c3, .bool d3, .slice B3 m3 e3]) rfl (by kernel_rfl) (fun _ _ h => h) rfl (wanted_some 51 rfl (by rfl) (by kernel_rfl) qe24) fun K hK => ?_; clear hd; simp only [frD, qe24] at hK ⊢; go_simp
      exact hK _ _ (Below.refl _ _) rfl
    | 35, _ =>
      have qe24 : (vs 24) = .bool false := hd 24 (cm (by kernel_rfl))
      refine step_valg [(24, some 51)] (fun vΦ _ => vΦ = .func (.func 29) #[] #[]) rfl (by kernel_rfl) (fun _ _ h => h) rfl (wanted_some 51 rfl (by rfl) (by kernel_rfl) qe24) fun K hK => ?_; clear hd; simp only [frD, qe24] at hK ⊢; go_simp
      exact hK _ _ (Below.refl _ _) rfl
    | 36, _ =>
      have qe24 : (vs 24) = .bool false := hd 24 (cm (by kernel_rfl))
      refine step_valg [(24, some 51)] (fun vΦ _ => vΦ = .agg #[.bool b4, .slice A4 n4 c4, .bool d4, .slice B4 m4 e4]) rfl (by kernel_rfl) (fun _ _ h => h) rfl (wanted_some 51 rfl (by rfl) (by kernel_rfl) qe24) fun K hK => ?_; clear hd; simp only [frD, qe24] at hK ⊢; go_simp
      exact hK _ _ (Below.refl _ _) rfl
    | 37, _ =>
      have qe24 : (vs 24) = .bool false := hd 24 (cm (by kernel_rfl))
      refine step_valg [(24, some 51)] (fun vΦ _ => vΦ = .agg #[.bool b5, .slice A5 n5 c5, .bool d5, .slice B5 m5 e5]) rfl (by kernel_rfl) (fun _ _ h => h) rfl (wanted_some 51 rfl (by rfl) (by kernel_rfl) qe24) fun K hK => ?_; clear hd; simp only [frD, qe24] at hK ⊢; go_simp
      exact hK _ _ (Below.refl _ _) rfl
    | 38, _ =>
      have qe24 : (vs 24) = .bool false := hd 24 (cm (by kernel_rfl)); have h32 : RatRep w3 (vs 32) ((x + y) + z) := hd 32 (cm (by kernel_rfl)); have qe35 : (vs 35) = .func (.func 29) #[] #[] := hd 35 (cm (by kernel_rfl)); have qe36 : (vs 36) = .agg #[.bool b4, .slice A4 n4 c4, .bool d4, .slice B4 m4 e4] := hd 36 (cm (by kernel_rfl)); have qe37 : (vs 37) = .agg #[.bool b5, .slice A5 n5 c5, .bool d5, .slice B5 m5 e5] := hd 37 (cm (by kernel_rfl))
      refine step_call (F := 29) (X := (vs 35)) (A := #[(vs 36), (vs 37)]) (B := #[.agg #[.bool b4, .slice A4 n4 c4, .bool d4, .slice B4 m4 e4], .agg #[.bool b5, .slice A5 n5 c5, .bool d5, .slice B5 m5 e5]]) [(24, some 51), (32, some 59), (35, some 62), (36, some 63), (37, some 64)] (fun vΦ wΦ => RatRep wΦ vΦ (y + z)) rfl (by kernel_rfl) (fun _ _ h => h) rfl (wanted_some 51 rfl (by rfl) (by kernel_rfl) qe24) rfl rfl (by kernel_rfl) qe35 (by kernel_rfl) (by rw [qe36, qe37]) Tryz.func29 (by kernel_rfl) (by kernel_rfl) ?_
      refine ((fadd_num ((S3.li 1 rfl).num) ((S3.li 0 rfl).num))).mono ?_; rintro e w4 ⟨U, rfl, hr, hk4⟩; exact ⟨_, rfl, hk4, hr⟩
    | 39, _ =>
      have qe24 : (vs 24) = .bool false := hd 24 (cm (by kernel_rfl)); have qe33 : (vs 33) = .func (.func 29) #[] #[] := hd 33 (cm (by kernel_rfl)); have qe34 : (vs 34) = .agg #[.bool b3, .slice A3 n3 c3, .bool d3, .slice B3 m3 e3] := hd 34 (cm (by kernel_rfl)); have h38 : RatRep w3 (vs 38) (y + z) := hd 38 (cm (by kernel_rfl))
      refine step_call (F := 29) (X := (vs 33)) (A := #[(vs 34), (vs 38)]) (B := #[.agg #[.bool b3, .slice A3 n3 c3, .bool d3, .slice B3 m3 e3], (vs 38)]) [(24, some 51), (33, some 60), (34, some 61), (38, some 65)] (fun vΦ wΦ => RatRep wΦ vΦ (x + (y + z))) rfl (by kernel_rfl) (fun _ _ h => h) rfl (wanted_some 51 rfl (by rfl) (by kernel_rfl) qe24) rfl rfl (by kernel_rfl) qe33 (by kernel_rfl) (by rw [qe34]) Tryz.func29 (by kernel_rfl) (by kernel_rfl) ?_
      refine ((fadd_num ((S3.li 2 rfl).num) (h38.num (by omega)))).mono ?_; rintro e w4 ⟨U, rfl, hr, hk4⟩; exact ⟨_, rfl, hk4, hr⟩
    | 40, _ =>
      have qe24 : (vs 24) = .bool false := hd 24 (cm (by kernel_rfl)); have qe25 : (vs 25) = .func (.func 31) #[] #[] := hd 25 (cm (by kernel_rfl)); have h32 : RatRep w3 (vs 32) ((x + y) + z) := hd 32 (cm (by kernel_rfl)); have h39 : RatRep w3 (vs 39) (x + (y + z)) := hd 39 (cm (by kernel_rfl))
      refine step_call (F := 31) (X := (vs 25)) (A := #[(vs 32), (vs 39)]) (B := #[(vs 32), (vs 39)]) [(24, some 51), (25, some 52), (32, some 59), (39, some 66)] (fun vΦ _ => vΦ = .bool true) rfl (by kernel_rfl) (fun _ _ h => h) rfl (wanted_some 51 rfl (by rfl) (by kernel_rfl) qe24) rfl rfl (by kernel_rfl) qe25 (by kernel_rfl) rfl Tryz.func31 (by kernel_rfl) (by kernel_rfl) ?_
      refine ((feq_s (h32.num (by omega)) (h39.num (by omega)) (Rat.add_assoc x y z))).mono ?_; rintro e w4 ⟨rfl, hk4⟩; exact ⟨_, rfl, hk4, rfl⟩
    | 41, _ =>
      have qe24 : (vs 24) = .bool false := hd 24 (cm (by kernel_rfl)); have qe40 : (vs 40) = .bool true := hd 40 (cm (by kernel_rfl))
      refine step_valg [(24, some 51), (40, some 67)] (fun vΦ _ => vΦ = .bool false) rfl (by kernel_rfl) (fun _ _ h => h) rfl (wanted_some 51 rfl (by rfl) (by kernel_rfl) qe24) fun K hK => ?_; clear hd; simp only [frD, qe24, qe40] at hK ⊢; go_simp
      exact hK _ _ (Below.refl _ _) rfl
    | 42, _ =>
      have qe24 : (vs 24) = .bool false := hd 24 (cm (by kernel_rfl)); have qe41 : (vs 41) = .bool false := hd 41 (cm (by kernel_rfl))
      refine step_val0 [(24, some 51), (41, some 68)] (fun vΦ _ => vΦ = .bool false) rfl (by kernel_rfl) rfl (fun _ _ h => h) rfl fun K hK => ?_; clear hd; simp only [frD, qe24, qe41] at hK ⊢; go_simp
      exact hK _ _ (Below.refl _ _) rfl
    | 43, _ =>
      have qe40 : (vs 40) = .bool true := hd 40 (cm (by kernel_rfl)); have qe42 : (vs 42) = .bool false := hd 42 (cm (by kernel_rfl))
      refine step_val0 [(40, some 67), (42, some 69)] (fun vΦ _ => vΦ = .bool false) rfl (by kernel_rfl) rfl (fun _ _ h => h) rfl fun K hK => ?_; clear hd; simp only [frD, qe40, qe42] at hK ⊢; go_simp
      exact hK _ _ (Below.refl _ _) rfl
    | 44, _ =>
      have qe43 : (vs 43) = .bool false := hd 43 (cm (by kernel_rfl))
      refine step_valg [(43, some 70)] (fun vΦ _ => vΦ = .func (.func 31) #[] #[]) rfl (by kernel_rfl) (fun _ _ h => h) rfl (wanted_some 70 rfl (by rfl) (by kernel_rfl) qe43) fun K hK => ?_; clear hd; simp only [frD, qe43] at hK ⊢; go_simp
      exact hK _ _ (Below.refl _ _) rfl
    | 45, _ =>
      have qe43 : (vs 43) = .bool false := hd 43 (cm (by kernel_rfl))
      refine step_valg [(43, some 70)] (fun vΦ _ => vΦ = .func (.func 30) #[] #[]) rfl (by kernel_rfl) (fun _ _ h => h) rfl (wanted_some 70 rfl (by rfl) (by kernel_rfl) qe43) fun K hK => ?_; clear hd; simp only [frD, qe43] at hK ⊢; go_simp
      exact hK _ _ (Below.refl _ _) rfl
    | 46, _ =>
      have qe43 : (vs 43) = .bool false := hd 43 (cm (by kernel_rfl))
      refine step_valg [(43, some 70)] (fun vΦ _ => vΦ = .func (.func 30) #[] #[]) rfl (by kernel_rfl) (fun _ _ h => h) rfl (wanted_some 70 rfl (by rfl) (by kernel_rfl) qe43) fun K hK => ?_; clear hd; simp only [frD, qe43] at hK ⊢; go_simp
      exact hK _ _ (Below.refl _ _) rfl
    | 47, _ =>
      have qe43 : (vs 43) = .bool false := hd 43 (cm (by kernel_rfl))
      refine step_valg [(43, some 70)] (fun vΦ _ => vΦ = .agg #[.bool b3, .slice A3 n3 c3, .bool d3, .slice B3 m3 e3]) rfl (by kernel_rfl) (fun _ _ h => h) rfl (wanted_some 70 rfl (by rfl) (by kernel_rfl) qe43) fun K hK => ?_; clear hd; simp only [frD, qe43] at hK ⊢; go_simp
      exact hK _ _ (Below.refl _ _) rfl
    | 48, _ =>
      have qe43 : (vs 43) = .bool false := hd 43 (cm (by kernel_rfl))
      refine step_valg [(43, some 70)] (fun vΦ _ => vΦ = .agg #[.bool b4, .slice A4 n4 c4, .bool d4, .slice B4 m4 e4]) rfl (by kernel_rfl) (fun _ _ h => h) rfl (wanted_some 70 rfl (by rfl) (by kernel_rfl) qe43) fun K hK => ?_; clear hd; simp only [frD, qe43] at hK ⊢; go_simp
      exact hK _ _ (Below.refl _ _) rfl
    | 49, _ =>
      have qe43 : (vs 43) = .bool false := hd 43 (cm (by kernel_rfl)); have qe46 : (vs 46) = .func (.func 30) #[] #[] := hd 46 (cm (by kernel_rfl)); have qe47 : (vs 47) = .agg #[.bool b3, .slice A3 n3 c3, .bool d3, .slice B3 m3 e3] := hd 47 (cm (by kernel_rfl)); have qe48 : (vs 48) = .agg #[.bool b4, .slice A4 n4 c4, .bool d4, .slice B4 m4 e4] := hd 48 (cm (by kernel_rfl))
      refine step_call (F := 30) (X := (vs 46)) (A := #[(vs 47), (vs 48)]) (B := #[.agg #[.bool b3, .slice A3 n3 c3, .bool d3, .slice B3 m3 e3], .agg #[.bool b4, .slice A4 n4 c4, .bool d4, .slice B4 m4 e4]]) [(43, some 70), (46, some 73), (47, some 74), (48, some 75)] (fun vΦ wΦ => RatRep wΦ vΦ (x * y)) rfl (by kernel_rfl) (fun _ _ h => h) rfl (wanted_some 70 rfl (by rfl) (by kernel_rfl) qe43) rfl rfl (by kernel_rfl) qe46 (by kernel_rfl) (by rw [qe47, qe48]) Tryz.func30 (by kernel_rfl) (by kernel_rfl) ?_
      refine ((fmul_num ((S3.li 2 rfl).num) ((S3.li 1 rfl).num))).mono ?_; rintro e w4 ⟨U, rfl, hr, hk4⟩; exact ⟨_, rfl, hk4, hr⟩
    | 50, _ =>
      have qe43 : (vs 43) = .bool false := hd 43 (cm (by kernel_rfl))
      refine step_valg [(43, some 70)] (fun vΦ _ => vΦ = .agg #[.bool b5, .slice A5 n5 c5, .bool d5, .slice B5 m5 e5]) rfl (by kernel_rfl) (fun _ _ h => h) rfl (wanted_some 70 rfl (by rfl) (by kernel_rfl) qe43) fun K hK => ?_; clear hd; simp only [frD, qe43] at hK ⊢; go_simp
      exact hK _ _ (Below.refl _ _) rfl
    | 51, _ =>
      have qe43 : (vs 43) = .bool false := hd 43 (cm (by kernel_rfl)); have qe45 : (vs 45) = .func (.func 30) #[] #[] := hd 45 (cm (by kernel_rfl)); have h49 : RatRep w3 (vs 49) (x * y) := hd 49 (cm (by kernel_rfl)); have qe50 : (vs 50) = .agg #[.bool b5, .slice A5 n5 c5, .bool d5, .slice B5 m5 e5] := hd 50 (cm (by kernel_rfl))
      refine step_call (F := 30) (X := (vs 45)) (A := #[(vs 49), (vs 50)]) (B := #[(vs 49), .agg #[.bool b5, .slice A5 n5 c5, .bool d5, .slice B5 m5 e5]]) [(43, some 70), (45, some 72), (49, some 76), (50, some 77)] (fun vΦ wΦ => RatRep wΦ vΦ ((x * y) * z)) rfl (by kernel_rfl) (fun _ _ h => h) rfl (wanted_some 70 rfl (by rfl) (by kernel_rfl) qe43) rfl rfl (by kernel_rfl) qe45 (by kernel_rfl) (by rw [qe50]) Tryz.func30 (by kernel_rfl) (by kernel_rfl) ?_
      refine ((fmul_num (h49.num (by omega)) ((S3.li 0 rfl).num))).mono ?_; rintro e w4 ⟨U, rfl, hr, hk4⟩; exact ⟨_, rfl, hk4, hr⟩
    | 52, _ =>
      have qe43 : (vs 43) = .bool false := hd 43 (cm (by kernel_rfl))
      refine step_valg [(43, some 70)] (fun vΦ _ => vΦ = .func (.func 30) #[] #[]) rfl (by kernel_rfl) (fun _ _ h => h) rfl (wanted_some 70 rfl (by rfl) (by kernel_rfl) qe43) fun K hK => ?_; clear hd; simp only [frD, qe43] at hK ⊢; go_simp
      exact hK _ _ (Below.refl _ _) rfl
    | 53, _ =>
      have qe43 : (vs 43) = .bool false := hd 43 (cm (by kernel_rfl))
      refine step_valg [(43, some 70)] (fun vΦ _ => vΦ = .agg #[.bool b3, .slice A3 n3 c3, .bool d3, .slice B3 m3 e3]) rfl (by kernel_rfl) (fun _ _ h => h) rfl (wanted_some 70 rfl (by rfl) (by kernel_rfl) qe43) fun K hK => ?_; clear hd; simp only [frD, qe43] at hK ⊢; go_simp
      exact hK _ _ (Below.refl _ _) rfl
    | 54, _ =>
      have qe43 : (vs 43) = .bool false := hd 43 (cm (by kernel_rfl))
      refine step_valg [(43, some 70)] (fun vΦ _ => vΦ = .func (.func 30) #[] #[]) rfl (by kernel_rfl) (fun _ _ h => h) rfl (wanted_some 70 rfl (by rfl) (by kernel_rfl) qe43) fun K hK => ?_; clear hd; simp only [frD, qe43] at hK ⊢; go_simp
      exact hK _ _ (Below.refl _ _) rfl
    | 55, _ =>
      have qe43 : (vs 43) = .bool false := hd 43 (cm (by kernel_rfl))
      refine step_valg [(43, some 70)] (fun vΦ _ => vΦ = .agg #[.bool b4, .slice A4 n4 c4, .bool d4, .slice B4 m4 e4]) rfl (by kernel_rfl) (fun _ _ h => h) rfl (wanted_some 70 rfl (by rfl) (by kernel_rfl) qe43) fun K hK => ?_; clear hd; simp only [frD, qe43] at hK ⊢; go_simp
      exact hK _ _ (Below.refl _ _) rfl
    | 56, _ =>
      have qe43 : (vs 43) = .bool false := hd 43 (cm (by kernel_rfl))
      refine step_valg [(43, some 70)] (fun vΦ _ => vΦ = .agg #[.bool b5, .slice A5 n5 c5, .bool d5, .slice B5 m5 e5]) rfl (by kernel_rfl) (fun _ _ h => h) rfl (wanted_some 70 rfl (by rfl) (by kernel_rfl) qe43) fun K hK => ?_; clear hd; simp only [frD, qe43] at hK ⊢; go_simp
      exact hK _ _ (Below.refl _ _) rfl
    | 57, _ =>
      have qe43 : (vs 43) = .bool false := hd 43 (cm (by kernel_rfl)); have h51 : RatRep w3 (vs 51) ((x * y) * z) := hd 51 (cm (by kernel_rfl)); have qe54 : (vs 54) = .func (.func 30) #[] #[] := hd 54 (cm (by kernel_rfl)); have qe55 : (vs 55) = .agg #[.bool b4, .slice A4 n4 c4, .bool d4, .slice B4 m4 e4] := hd 55 (cm (by kernel_rfl)); have qe56 : (vs 56) = .agg #[.bool b5, .slice A5 n5 c5, .bool d5, .slice B5 m5 e5] := hd 56 (cm (by kernel_rfl))
      refine step_call (F := 30) (X := (vs 54)) (A := #[(vs 55), (vs 56)]) (B := #[.agg #[.bool b4, .slice A4 n4 c4, .bool d4, .slice B4 m4 e4], .agg #[.bool b5, .slice A5 n5 c5, .bool d5, .slice B5 m5 e5]]) [(43, some 70), (51, some 78), (54, some 81), (55, some 82), (56, some 83)] (fun vΦ wΦ => RatRep wΦ vΦ (y * z)) rfl (by kernel_rfl) (fun _ _ h => h) rfl (wanted_some 70 rfl (by rfl) (by kernel_rfl) qe43) rfl rfl (by kernel_rfl) qe54 (by kernel_rfl) (by rw [qe55, qe56]) Tryz.func30 (by kernel_rfl) (by kernel_rfl) ?_
      refine ((fmul_num ((S3.li 1 rfl).num) ((S3.li 0 rfl).num))).mono ?_; rintro e w4 ⟨U, rfl, hr, hk4⟩; exact ⟨_, rfl, hk4, hr⟩
    | 58, _ =>
      have qe43 : (vs 43) = .bool false := hd 43 (cm (by kernel_rfl)); have qe52 : (vs 52) = .func (.func 30) #[] #[] := hd 52 (cm (by kernel_rfl)); have qe53 : (vs 53) = .agg #[.bool b3, .slice A3 n3 c3, .bool d3, .slice B3 m3 e3] := hd 53 (cm (by kernel_rfl)); have h57 : RatRep w3 (vs 57) (y * z) := hd 57 (cm (by kernel_rfl))
      refine step_call (F := 30) (X := (vs 52)) (A := #[(vs 53), (vs 57)]) (B := #[.agg #[.bool b3, .slice A3 n3 c3, .bool d3, .slice B3 m3 e3], (vs 57)]) [(43, some 70), (52, some 79), (53, some 80), (57, some 84)] (fun vΦ wΦ => RatRep wΦ vΦ (x * (y * z))) rfl (by kernel_rfl) (fun _ _ h => h) rfl (wanted_some 70 rfl (by rfl) (by kernel_rfl) qe43) rfl rfl (by kernel_rfl) qe52 (by kernel_rfl) (by rw [qe53]) Tryz.func30 (by kernel_rfl) (by kernel_rfl) ?_
      refine ((fmul_num ((S3.li 2 rfl).num) (h57.num (by omega)))).mono ?_; rintro e w4 ⟨U, rfl, hr, hk4⟩; exact ⟨_, rfl, hk4, hr⟩
    | 59, _ =>
      have qe43 : (vs 43) = .bool false := hd 43 (cm (by kernel_rfl)); have qe44 : (vs 44) = .func (.func 31) #[] #[] := hd 44 (cm (by kernel_rfl)); have h51 : RatRep w3 (vs 51) ((x * y) * z) := hd 51 (cm (by kernel_rfl)); have h58 : RatRep w3 (vs 58) (x * (y * z)) := hd 58 (cm (by kernel_rfl))
      refine step_call (F := 31) (X := (vs 44)) (A := #[(vs 51), (vs 58)]) (B := #[(vs 51), (vs 58)]) [(43, some 70), (44, some 71), (51, some 78), (58, some 85)] (fun vΦ _ => vΦ = .bool true) rfl (by kernel_rfl) (fun _ _ h => h) rfl (wanted_some 70 rfl (by rfl) (by kernel_rfl) qe43) rfl rfl (by kernel_rfl) qe44 (by kernel_rfl) rfl Tryz.func31 (by kernel_rfl) (by kernel_rfl) ?_
      refine ((feq_s (h51.num (by omega)) (h58.num (by omega)) (Rat.mul_assoc x y z))).mono ?_; rintro e w4 ⟨rfl, hk4⟩; exact ⟨_, rfl, hk4, rfl⟩
    | 60, _ =>
      have qe43 : (vs 43) = .bool false := hd 43 (cm (by kernel_rfl)); have qe59 : (vs 59) = .bool true := hd 59 (cm (by kernel_rfl))
      refine step_valg [(43, some 70), (59, some 86)] (fun vΦ _ => vΦ = .bool false) rfl (by kernel_rfl) (fun _ _ h => h) rfl (wanted_some 70 rfl (by rfl) (by kernel_rfl) qe43) fun K hK => ?_; clear hd; simp only [frD, qe43, qe59] at hK ⊢; go_simp
      exact hK _ _ (Below.refl _ _) rfl
    | 61, _ =>
      have qe43 : (vs 43) = .bool false := hd 43 (cm (by kernel_rfl)); have qe60 : (vs 60) = .bool false := hd 60 (cm (by kernel_rfl))
      refine step_val0 [(43, some 70), (60, some 87)] (fun vΦ _ => vΦ = .bool false) rfl (by kernel_rfl) rfl (fun _ _ h => h) rfl fun K hK => ?_; clear hd; simp only [frD, qe43, qe60] at hK ⊢; go_simp
      exact hK _ _ (Below.refl _ _) rfl
    | 62, _ =>
      have qe59 : (vs 59) = .bool true := hd 59 (cm (by kernel_rfl)); have qe61 : (vs 61) = .bool false := hd 61 (cm (by kernel_rfl))
      refine step_val0 [(59, some 86), (61, some 88)] (fun vΦ _ => vΦ = .bool false) rfl (by kernel_rfl) rfl (fun _ _ h => h) rfl fun K hK => ?_; clear hd; simp only [frD, qe59, qe61] at hK ⊢; go_simp
      exact hK _ _ (Below.refl _ _) rfl
    | 63, _ =>
      have qe62 : (vs 62) = .bool false := hd 62 (cm (by kernel_rfl))
      refine step_valg [(62, some 89)] (fun vΦ _ => vΦ = .func (.func 31) #[] #[]) rfl (by kernel_rfl) (fun _ _ h => h) rfl (wanted_some 89 rfl (by rfl) (by kernel_rfl) qe62) fun K hK => ?_; clear hd; simp only [frD, qe62] at hK ⊢; go_simp
      exact hK _ _ (Below.refl _ _) rfl
    | 64, _ =>
      have qe62 : (vs 62) = .bool false := hd 62 (cm (by kernel_rfl))
      refine step_valg [(62, some 89)] (fun vΦ _ => vΦ = .func (.func 30) #[] #[]) rfl (by kernel_rfl) (fun _ _ h => h) rfl (wanted_some 89 rfl (by rfl) (by kernel_rfl) qe62) fun K hK => ?_; clear hd; simp only [frD, qe62] at hK ⊢; go_simp
      exact hK _ _ (Below.refl _ _) rfl
    | 65, _ =>
      have qe62 : (vs 62) = .bool false := hd 62 (cm (by kernel_rfl))
      refine step_valg [(62, some 89)] (fun vΦ _ => vΦ = .agg #[.bool b3, .slice A3 n3 c3, .bool d3, .slice B3 m3 e3]) rfl (by kernel_rfl) (fun _ _ h => h) rfl (wanted_some 89 rfl (by rfl) (by kernel_rfl) qe62) fun K hK => ?_; clear hd; simp only [frD, qe62] at hK ⊢; go_simp
      exact hK _ _ (Below.refl _ _) rfl
    | 66, _ =>
      have qe62 : (vs 62) = .bool false := hd 62 (cm (by kernel_rfl))
      refine step_valg [(62, some 89)] (fun vΦ _ => vΦ = .func (.func 29) #[] #[]) rfl (by kernel_rfl) (fun _ _ h => h) rfl (wanted_some 89 rfl (by rfl) (by kernel_rfl) qe62) fun K hK => ?_; clear hd; simp only [frD, qe62] at hK ⊢; go_simp
      exact hK _ _ (Below.refl _ _) rfl
    | 67, _ =>
      have qe62 : (vs 62) = .bool false := hd 62 (cm (by kernel_rfl))
      refine step_valg [(62, some 89)] (fun vΦ _ => vΦ = .agg #[.bool b4, .slice A4 n4 c4, .bool d4, .slice B4 m4 e4]) rfl (by kernel_rfl) (fun _ _ h => h) rfl (wanted_some 89 rfl (by rfl) (by kernel_rfl) qe62) fun K hK => ?_; clear hd; simp only [frD, qe62] at hK ⊢; go_simp
      exact hK _ _ (Below.refl _ _) rfl
    | 68, _ =>
      have qe62 : (vs 62) = .bool false := hd 62 (cm (by kernel_rfl))
      refine step_valg [(62, some 89)] (fun vΦ _ => vΦ = .agg #[.bool b5, .slice A5 n5 c5, .bool d5, .slice B5 m5 e5]) rfl (by kernel_rfl) (fun _ _ h => h) rfl (wanted_some 89 rfl (by rfl) (by kernel_rfl) qe62) fun K hK => ?_; clear hd; simp only [frD, qe62] at hK ⊢; go_simp
      exact hK _ _ (Below.refl _ _) rfl
    | 69, _ =>
      have qe62 : (vs 62) = .bool false := hd 62 (cm (by kernel_rfl)); have qe66 : (vs 66) = .func (.func 29) #[] #[] := hd 66 (cm (by kernel_rfl)); have qe67 : (vs 67) = .agg #[.bool b4, .slice A4 n4 c4, .bool d4, .slice B4 m4 e4] := hd 67 (cm (by kernel_rfl)); have qe68 : (vs 68) = .agg #[.bool b5, .slice A5 n5 c5, .bool d5, .slice B5 m5 e5] := hd 68 (cm (by kernel_rfl))
      refine step_call (F := 29) (X := (vs 66)) (A := #[(vs 67), (vs 68)]) (B := #[.agg #[.bool b4, .slice A4 n4 c4, .bool d4, .slice B4 m4 e4], .agg #[.bool b5, .slice A5 n5 c5, .bool d5, .slice B5 m5 e5]]) [(62, some 89), (66, some 93), (67, some 94), (68, some 95)] (fun vΦ wΦ => RatRep wΦ vΦ (y + z)) rfl (by kernel_rfl) (fun _ _ h => h) rfl (wanted_some 89 rfl (by rfl) (by kernel_rfl) qe62) rfl rfl (by kernel_rfl) qe66 (by kernel_rfl) (by rw [qe67, qe68]) Tryz.func29 (by kernel_rfl) (by kernel_rfl) ?_
      refine ((fadd_num ((S3.li 1 rfl).num) ((S3.li 0 rfl).num))).mono ?_; rintro e w4 ⟨U, rfl, hr, hk4⟩; exact ⟨_, rfl, hk4, hr⟩
    | 70, _ =>
      have qe62 : (vs 62) = .bool false := hd 62 (cm (by kernel_rfl)); have qe64 : (vs 64) = .func (.func 30) #[] #[] := hd 64 (cm (by kernel_rfl)); have qe65 : (vs 65) = .agg #[.bool b3, .slice A3 n3 c3, .bool d3, .slice B3 m3 e3] := hd 65 (cm (by kernel_rfl)); have h69 : RatRep w3 (vs 69) (y + z) := hd 69 (cm (by kernel_rfl))
      refine step_call (F := 30) (X := (vs 64)) (A := #[(vs 65), (vs 69)]) (B := #[.agg #[.bool b3, .slice A3 n3 c3, .bool d3, .slice B3 m3 e3], (vs 69)]) [(62, some 89), (64, some 91), (65, some 92), (69, some 96)] (fun vΦ wΦ => RatRep wΦ vΦ (x * (y + z))) rfl (by kernel_rfl) (fun _ _ h => h) rfl (wanted_some 89 rfl (by rfl) (by kernel_rfl) qe62) rfl rfl (by kernel_rfl) qe64 (by kernel_rfl) (by rw [qe65]) Tryz.func30 (by kernel_rfl) (by kernel_rfl) ?_
      refine ((fmul_num ((S3.li 2 rfl).num) (h69.num (by omega)))).mono ?_; rintro e w4 ⟨U, rfl, hr, hk4⟩; exact ⟨_, rfl, hk4, hr⟩
    | 71, _ =>
      have qe62 : (vs 62) = .bool false := hd 62 (cm (by kernel_rfl))
      refine step_valg [(62, some 89)] (fun vΦ _ => vΦ = .func (.func 29) #[] #[]) rfl (by kernel_rfl) (fun _ _ h => h) rfl (wanted_some 89 rfl (by rfl) (by kernel_rfl) qe62) fun K hK => ?_; clear hd; simp only [frD, qe62] at hK ⊢; go_simp
      exact hK _ _ (Below.refl _ _) rfl
    | 72, _ =>
      have qe62 : (vs 62) = .bool false := hd 62 (cm (by kernel_rfl))
      refine step_valg [(62, some 89)] (fun vΦ _ => vΦ = .func (.func 30) #[] #[]) rfl (by kernel_rfl) (fun _ _ h => h) rfl (wanted_some 89 rfl (by rfl) (by kernel_rfl) qe62) fun K hK => ?_; clear hd; simp only [frD, qe62] at hK ⊢; go_simp
      exact hK _ _ (Below.refl _ _) rfl
    | 73, _ =>
      have qe62 : (vs 62) = .bool false := hd 62 (cm (by kernel_rfl))
      refine step_valg [(62, some 89)] (fun vΦ _ => vΦ = .agg #[.bool b3, .slice A3 n3 c3, .bool d3, .slice B3 m3 e3]) rfl (by kernel_rfl) (fun _ _ h => h) rfl (wanted_some 89 rfl (by rfl) (by kernel_rfl) qe62) fun K hK => ?_; clear hd; simp only [frD, qe62] at hK ⊢; go_simp
      exact hK _ _ (Below.refl _ _) rfl
    | 74, _ =>
      have qe62 : (vs 62) = .bool false := hd 62 (cm (by kernel_rfl))
      refine step_valg [(62, some 89)] (fun vΦ _ => vΦ = .agg #[.bool b4, .slice A4 n4 c4, .bool d4, .slice B4 m4 e4]) rfl (by kernel_rfl) (fun _ _ h => h) rfl (wanted_some 89 rfl (by rfl) (by kernel_rfl) qe62) fun K hK => ?_; clear hd; simp only [frD, qe62] at hK ⊢; go_simp
      exact hK _ _ (Below.refl _ _) rfl
    | 75, _ =>
      have qe62 : (vs 62) = .bool false := hd 62 (cm (by kernel_rfl)); have h70 : RatRep w3 (vs 70) (x * (y + z)) := hd 70 (cm (by kernel_rfl)); have qe72 : (vs 72) = .func (.func 30) #[] #[] := hd 72 (cm (by kernel_rfl)); have qe73 : (vs 73) = .agg #[.bool b3, .slice A3 n3 c3, .bool d3, .slice B3 m3 e3] := hd 73 (cm (by kernel_rfl)); have qe74 : (vs 74) = .agg #[.bool b4, .slice A4 n4 c4, .bool d4, .slice B4 m4 e4] := hd 74 (cm (by kernel_rfl))
      refine step_call (F := 30) (X := (vs 72)) (A := #[(vs 73), (vs 74)]) (B := #[.agg #[.bool b3, .slice A3 n3 c3, .bool d3, .slice B3 m3 e3], .agg #[.bool b4, .slice A4 n4 c4, .bool d4, .slice B4 m4 e4]]) [(62, some 89), (70, some 97), (72, some 99), (73, some 100), (74, some 101)] (fun vΦ wΦ => RatRep wΦ vΦ (x * y)) rfl (by kernel_rfl) (fun _ _ h => h) rfl (wanted_some 89 rfl (by rfl) (by kernel_rfl) qe62) rfl rfl (by kernel_rfl) qe72 (by kernel_rfl) (by rw [qe73, qe74]) Tryz.func30 (by kernel_rfl) (by kernel_rfl) ?_
      refine ((fmul_num ((S3.li 2 rfl).num) ((S3.li 1 rfl).num))).mono ?_; rintro e w4 ⟨U, rfl, hr, hk4⟩; exact ⟨_, rfl, hk4, hr⟩
    | 76, _ =>
      have qe62 : (vs 62) = .bool false := hd 62 (cm (by kernel_rfl))
      refine step_valg [(62, some 89)] (fun vΦ _ => vΦ = .func (.func 30) #[] #[]) rfl (by kernel_rfl) (fun _ _ h => h) rfl (wanted_some 89 rfl (by rfl) (by kernel_rfl) qe62) fun K hK => ?_; clear hd; simp only [frD, qe62] at hK ⊢; go_simp
      exact hK _ _ (Below.refl _ _) rfl
    | 77, _ =>
      have qe62 : (vs 62) = .bool false := hd 62 (cm (by kernel_rfl))
      refine step_valg [(62, some 89)] (fun vΦ _ => vΦ = .agg #[.bool b3, .slice A3 n3 c3, .bool d3, .slice B3 m3 e3]) rfl (by kernel_rfl) (fun _ _ h => h) rfl (wanted_some 89 rfl (by rfl) (by kernel_rfl) qe62) fun K hK => ?_; clear hd; simp only [frD, qe62] at hK ⊢; go_simp
      exact hK _ _ (Below.refl _ _) rfl
    | 78, _ =>
      have qe62 : (vs 62) = .bool false := hd 62 (cm (by kernel_rfl))
      refine step_valg [(62, some 89)] (fun vΦ _ => vΦ = .agg #[.bool b5, .slice A5 n5 c5, .bool d5, .slice B5 m5 e5]) rfl (by kernel_rfl) (fun _ _ h => h) rfl (wanted_some 89 rfl (by rfl) (by kernel_rfl) qe62) fun K hK => ?_; clear hd; simp only [frD, qe62] at hK ⊢; go_simp
      exact hK _ _ (Below.refl _ _) rfl
    | 79, _ =>
      have qe62 : (vs 62) = .bool false := hd 62 (cm (by kernel_rfl)); have h75 : RatRep w3 (vs 75) (x * y) := hd 75 (cm (by kernel_rfl)); have qe76 : (vs 76) = .func (.func 30) #[] #[] := hd 76 (cm (by kernel_rfl)); have qe77 : (vs 77) = .agg #[.bool b3, .slice A3 n3 c3, .bool d3, .slice B3 m3 e3] := hd 77 (cm (by kernel_rfl)); have qe78 : (vs 78) = .agg #[.bool b5, .slice A5 n5 c5, .bool d5, .slice B5 m5 e5] := hd 78 (cm (by kernel_rfl))
      refine step_call (F := 30) (X := (vs 76)) (A := #[(vs 77), (vs 78)]) (B := #[.agg #[.bool b3, .slice A3 n3 c3, .bool d3, .slice B3 m3 e3], .agg #[.bool b5, .slice A5 n5 c5, .bool d5, .slice B5 m5 e5]]) [(62, some 89), (75, some 102), (76, some 103), (77, some 104), (78, some 105)] (fun vΦ wΦ => RatRep wΦ vΦ (x * z)) rfl (by kernel_rfl) (fun _ _ h => h) rfl (wanted_some 89 rfl (by rfl) (by kernel_rfl) qe62) rfl rfl (by kernel_rfl) qe76 (by kernel_rfl) (by rw [qe77, qe78]) Tryz.func30 (by kernel_rfl) (by kernel_rfl) ?_
      refine ((fmul_num ((S3.li 2 rfl).num) ((S3.li 0 rfl).num))).mono ?_; rintro e w4 ⟨U, rfl, hr, hk4⟩; exact ⟨_, rfl, hk4, hr⟩
    | 80, _ =>
      have qe62 : (vs 62) = .bool false := hd 62 (cm (by kernel_rfl)); have qe71 : (vs 71) = .func (.func 29) #[] #[] := hd 71 (cm (by kernel_rfl)); have h75 : RatRep w3 (vs 75) (x * y) := hd 75 (cm (by kernel_rfl)); have h79 : RatRep w3 (vs 79) (x * z) := hd 79 (cm (by kernel_rfl))
      refine step_call (F := 29) (X := (vs 71)) (A := #[(vs 75), (vs 79)]) (B := #[(vs 75), (vs 79)]) [(62, some 89), (71, some 98), (75, some 102), (79, some 106)] (fun vΦ wΦ => RatRep wΦ vΦ ((x * y) + (x * z))) rfl (by kernel_rfl) (fun _ _ h => h) rfl (wanted_some 89 rfl (by rfl) (by kernel_rfl) qe62) rfl rfl (by kernel_rfl) qe71 (by kernel_rfl) rfl Tryz.func29 (by kernel_rfl) (by kernel_rfl) ?_
      refine ((fadd_num (h75.num (by omega)) (h79.num (by omega)))).mono ?_; rintro e w4 ⟨U, rfl, hr, hk4⟩; exact ⟨_, rfl, hk4, hr⟩
    | 81, _ =>
      have qe62 : (vs 62) = .bool false := hd 62 (cm (by kernel_rfl)); have qe63 : (vs 63) = .func (.func 31) #[] #[] := hd 63 (cm (by kernel_rfl)); have h70 : RatRep w3 (vs 70) (x * (y + z)) := hd 70 (cm (by kernel_rfl)); have h80 : RatRep w3 (vs 80) ((x * y) + (x * z)) := hd 80 (cm (by kernel_rfl))
      refine step_call (F := 31) (X := (vs 63)) (A := #[(vs 70), (vs 80)]) (B := #[(vs 70), (vs 80)]) [(62, some 89), (63, some 90), (70, some 97), (80, some 107)] (fun vΦ _ => vΦ = .bool true) rfl (by kernel_rfl) (fun _ _ h => h) rfl (wanted_some 89 rfl (by rfl) (by kernel_rfl) qe62) rfl rfl (by kernel_rfl) qe63 (by kernel_rfl) rfl Tryz.func31 (by kernel_rfl) (by kernel_rfl) ?_
      refine ((feq_s (h70.num (by omega)) (h80.num (by omega)) (Rat.mul_add x y z))).mono ?_; rintro e w4 ⟨rfl, hk4⟩; exact ⟨_, rfl, hk4, rfl⟩
    | 82, _ =>
      have qe62 : (vs 62) = .bool false := hd 62 (cm (by kernel_rfl)); have qe81 : (vs 81) = .bool true := hd 81 (cm (by kernel_rfl))
      refine step_valg [(62, some 89), (81, some 108)] (fun vΦ _ => vΦ = .bool false) rfl (by kernel_rfl) (fun _ _ h => h) rfl (wanted_some 89 rfl (by rfl) (by kernel_rfl) qe62) fun K hK => ?_; clear hd; simp only [frD, qe62, qe81] at hK ⊢; go_simp
      exact hK _ _ (Below.refl _ _) rfl
    | 83, _ =>
      have qe62 : (vs 62) = .bool false := hd 62 (cm (by kernel_rfl)); have qe82 : (vs 82) = .bool false := hd 82 (cm (by kernel_rfl))
      refine step_val0 [(62, some 89), (82, some 109)] (fun vΦ _ => vΦ = .bool false) rfl (by kernel_rfl) rfl (fun _ _ h => h) rfl fun K hK => ?_; clear hd; simp only [frD, qe62, qe82] at hK ⊢; go_simp
      exact hK _ _ (Below.refl _ _) rfl
    | i + 84, hi => exact absurd hi (by omega)
  · intro vs W6 hk3 hΦ _
    refine wpList_end (by kernel_rfl) ?_
    rw [fr_frD, show (List.range 84).map _ = [(0, some 27), (1, some 28), (2, some 29), (3, some 30), (4, some 31), (5, some 32), (6, some 33), (7, some 34), (8, some 35), (9, some 36), (10, some 37), (11, some 38), (12, some 39), (13, some 40), (14, some 41), (15, some 42), (16, some 43), (17, some 44), (18, some 45), (19, some 46), (20, some 47), (21, some 48), (22, some 49), (23, some 50), (24, some 51), (25, some 52), (26, some 53), (27, some 54), (28, some 55), (29, some 56), (30, some 57), (31, some 58), (32, some 59), (33, some 60), (34, some 61), (35, some 62), (36, some 63), (37, some 64), (38, some 65), (39, some 66), (40, some 67), (41, some 68), (42, some 69), (43, some 70), (44, some 71), (45, some 72), (46, some 73), (47, some 74), (48, some 75), (49, some 76), (50, some 77), (51, some 78), (52, some 79), (53, some 80), (54, some 81), (55, some 82), (56, some 83), (57, some 84), (58, some 85), (59, some 86), (60, some 87), (61, some 88), (62, some 89), (63, some 90), (64, some 91), (65, some 92), (66, some 93), (67, some 94), (68, some 95), (69, some 96), (70, some 97), (71, some 98), (72, some 99), (73, some 100), (74, some 101), (75, some 102), (76, some 103), (77, some 104), (78, some 105), (79, some 106), (80, some 107), (81, some 108), (82, some 109), (83, some 110)] by kernel_rfl]
    have pa0 : (vs 0) = .func (.func 31) #[] #[] := hΦ 0 (by decide)
    have pa1 : (vs 1) = .func (.func 29) #[] #[] := hΦ 1 (by decide)
    have pa2 : (vs 2) = .agg #[.bool b3, .slice A3 n3 c3, .bool d3, .slice B3 m3 e3] := hΦ 2 (by decide)
    have pa3 : (vs 3) = .agg #[.bool b4, .slice A4 n4 c4, .bool d4, .slice B4 m4 e4] := hΦ 3 (by decide)
    have pa4 : RatRep W6 (vs 4) (x + y) := hΦ 4 (by decide)
    have pa5 : (vs 5) = .func (.func 29) #[] #[] := hΦ 5 (by decide)
    have pa6 : (vs 6) = .agg #[.bool b4, .slice A4 n4 c4, .bool d4, .slice B4 m4 e4] := hΦ 6 (by decide)
    have pa7 : (vs 7) = .agg #[.bool b3, .slice A3 n3 c3, .bool d3, .slice B3 m3 e3] := hΦ 7 (by decide)
    have pa8 : RatRep W6 (vs 8) (y + x) := hΦ 8 (by decide)
    have pa9 : (vs 9) = .bool true := hΦ 9 (by decide)
    have pa10 : (vs 10) = .bool false := hΦ 10 (by decide)
    have pa11 : (vs 11) = .bool false := hΦ 11 (by decide)
    have pa12 : (vs 12) = .func (.func 31) #[] #[] := hΦ 12 (by decide)
    have pa13 : (vs 13) = .func (.func 30) #[] #[] := hΦ 13 (by decide)
    have pa14 : (vs 14) = .agg #[.bool b3, .slice A3 n3 c3, .bool d3, .slice B3 m3 e3] := hΦ 14 (by decide)
    have pa15 : (vs 15) = .agg #[.bool b4, .slice A4 n4 c4, .bool d4, .slice B4 m4 e4] := hΦ 15 (by decide)
    have pa16 : RatRep W6 (vs 16) (x * y) := hΦ 16 (by decide)
    have pa17 : (vs 17) = .func (.func 30) #[] #[] := hΦ 17 (by decide)
    have pa18 : (vs 18) = .agg #[.bool b4, .slice A4 n4 c4, .bool d4, .slice B4 m4 e4] := hΦ 18 (by decide)
    have pa19 : (vs 19) = .agg #[.bool b3, .slice A3 n3 c3, .bool d3, .slice B3 m3 e3] := hΦ 19 (by decide)
    have pa20 : RatRep W6 (vs 20) (y * x) := hΦ 20 (by decide)
    have pa21 : (vs 21) = .bool true := hΦ 21 (by decide)
    have pa22 : (vs 22) = .bool false := hΦ 22 (by decide)
    have pa23 : (vs 23) = .bool false := hΦ 23 (by decide)
    have pa24 : (vs 24) = .bool false := hΦ 24 (by decide)
    have pa25 : (vs 25) = .func (.func 31) #[] #[] := hΦ 25 (by decide)
    have pa26 : (vs 26) = .func (.func 29) #[] #[] := hΦ 26 (by decide)
    have pa27 : (vs 27) = .func (.func 29) #[] #[] := hΦ 27 (by decide)
    have pa28 : (vs 28) = .agg #[.bool b3, .slice A3 n3 c3, .bool d3, .slice B3 m3 e3] := hΦ 28 (by decide)
    have pa29 : (vs 29) = .agg #[.bool b4, .slice A4 n4 c4, .bool d4, .slice B4 m4 e4] := hΦ 29 (by decide)
    have pa30 : RatRep W6 (vs 30) (x + y) := hΦ 30 (by decide)
    have pa31 : (vs 31) = .agg #[.bool b5, .slice A5 n5 c5, .bool d5, .slice B5 m5 e5] := hΦ 31 (by decide)
    have pa32 : RatRep W6 (vs 32) ((x + y) + z) := hΦ 32 (by decide)
    have pa33 : (vs 33) = .func (.func 29) #[] #[] := hΦ 33 (by decide)
    have pa34 : (vs 34) = .agg #[.bool b3, .slice A3 n3 c3, .bool d3, .slice B3 m3 e3] := hΦ 34 (by decide)
    have pa35 : (vs 35) = .func (.func 29) #[] #[] := hΦ 35 (by decide)
    have pa36 : (vs 36) = .agg #[.bool b4, .slice A4 n4 c4, .bool d4, .slice B4 m4 e4] := hΦ 36 (by decide)
    have pa37 : (vs 37) = .agg #[.bool b5, .slice A5 n5 c5, .bool d5, .slice B5 m5 e5] := hΦ 37 (by decide)
    have pa38 : RatRep W6 (vs 38) (y + z) := hΦ 38 (by decide)
    have pa39 : RatRep W6 (vs 39) (x + (y + z)) := hΦ 39 (by decide)
    have pa40 : (vs 40) = .bool true := hΦ 40 (by decide)
    have pa41 : (vs 41) = .bool false := hΦ 41 (by decide)
    have pa42 : (vs 42) = .bool false := hΦ 42 (by decide)
    have pa43 : (vs 43) = .bool false := hΦ 43 (by decide)
    have pa44 : (vs 44) = .func (.func 31) #[] #[] := hΦ 44 (by decide)
    have pa45 : (vs 45) = .func (.func 30) #[] #[] := hΦ 45 (by decide)
    have pa46 : (vs 46) = .func (.func 30) #[] #[] := hΦ 46 (by decide)
    have pa47 : (vs 47) = .agg #[.bool b3, .slice A3 n3 c3, .bool d3, .slice B3 m3 e3] := hΦ 47 (by decide)
    have pa48 : (vs 48) = .agg #[.bool b4, .slice A4 n4 c4, .bool d4, .slice B4 m4 e4] := hΦ 48 (by decide)
    have pa49 : RatRep W6 (vs 49) (x * y) := hΦ 49 (by decide)
    have pa50 : (vs 50) = .agg #[.bool b5, .slice A5 n5 c5, .bool d5, .slice B5 m5 e5] := hΦ 50 (by decide)
    have pa51 : RatRep W6 (vs 51) ((x * y) * z) := hΦ 51 (by decide)
    have pa52 : (vs 52) = .func (.func 30) #[] #[] := hΦ 52 (by decide)
    have pa53 : (vs 53) = .agg #[.bool b3, .slice A3 n3 c3, .bool d3, .slice B3 m3 e3] := hΦ 53 (by decide)
    have pa54 : (vs 54) = .func (.func 30) #[] #[] := hΦ 54 (by decide)
    have pa55 : (vs 55) = .agg #[.bool b4, .slice A4 n4 c4, .bool d4, .slice B4 m4 e4] := hΦ 55 (by decide)
    have pa56 : (vs 56) = .agg #[.bool b5, .slice A5 n5 c5, .bool d5, .slice B5 m5 e5] := hΦ 56 (by decide)
    have pa57 : RatRep W6 (vs 57) (y * z) := hΦ 57 (by decide)
    have pa58 : RatRep W6 (vs 58) (x * (y * z)) := hΦ 58 (by decide)
    have pa59 : (vs 59) = .bool true := hΦ 59 (by decide)
    have pa60 : (vs 60) = .bool false := hΦ 60 (by decide)
    have pa61 : (vs 61) = .bool false := hΦ 61 (by decide)
    have pa62 : (vs 62) = .bool false := hΦ 62 (by decide)
    have pa63 : (vs 63) = .func (.func 31) #[] #[] := hΦ 63 (by decide)
    have pa64 : (vs 64) = .func (.func 30) #[] #[] := hΦ 64 (by decide)
    have pa65 : (vs 65) = .agg #[.bool b3, .slice A3 n3 c3, .bool d3, .slice B3 m3 e3] := hΦ 65 (by decide)
    have pa66 : (vs 66) = .func (.func 29) #[] #[] := hΦ 66 (by decide)
    have pa67 : (vs 67) = .agg #[.bool b4, .slice A4 n4 c4, .bool d4, .slice B4 m4 e4] := hΦ 67 (by decide)
    have pa68 : (vs 68) = .agg #[.bool b5, .slice A5 n5 c5, .bool d5, .slice B5 m5 e5] := hΦ 68 (by decide)
    have pa69 : RatRep W6 (vs 69) (y + z) := hΦ 69 (by decide)
    have pa70 : RatRep W6 (vs 70) (x * (y + z)) := hΦ 70 (by decide)
    have pa71 : (vs 71) = .func (.func 29) #[] #[] := hΦ 71 (by decide)
    have pa72 : (vs 72) = .func (.func 30) #[] #[] := hΦ 72 (by decide)
    have pa73 : (vs 73) = .agg #[.bool b3, .slice A3 n3 c3, .bool d3, .slice B3 m3 e3] := hΦ 73 (by decide)
    have pa74 : (vs 74) = .agg #[.bool b4, .slice A4 n4 c4, .bool d4, .slice B4 m4 e4] := hΦ 74 (by decide)
    have pa75 : RatRep W6 (vs 75) (x * y) := hΦ 75 (by decide)
    have pa76 : (vs 76) = .func (.func 30) #[] #[] := hΦ 76 (by decide)
    have pa77 : (vs 77) = .agg #[.bool b3, .slice A3 n3 c3, .bool d3, .slice B3 m3 e3] := hΦ 77 (by decide)
    have pa78 : (vs 78) = .agg #[.bool b5, .slice A5 n5 c5, .bool d5, .slice B5 m5 e5] := hΦ 78 (by decide)
    have pa79 : RatRep W6 (vs 79) (x * z) := hΦ 79 (by decide)
    have pa80 : RatRep W6 (vs 80) ((x * y) + (x * z)) := hΦ 80 (by decide)
    have pa81 : (vs 81) = .bool true := hΦ 81 (by decide)
    have pa82 : (vs 82) = .bool false := hΦ 82 (by decide)
    have pa83 : (vs 83) = .bool false := hΦ 83 (by decide)
    clear hΦ
    simp only [frD, pa0, pa1, pa2, pa3, pa5, pa6, pa7, pa9, pa10, pa11, pa12, pa13, pa14, pa15, pa17, pa18, pa19, pa21, pa22, pa23, pa24, pa25, pa26, pa27, pa28, pa29, pa31, pa33, pa34, pa35, pa36, pa37, pa40, pa41, pa42, pa43, pa44, pa45, pa46, pa47, pa48, pa50, pa52, pa53, pa54, pa55, pa56, pa59, pa60, pa61, pa62, pa63, pa64, pa65, pa66, pa67, pa68, pa71, pa72, pa73, pa74, pa76, pa77, pa78, pa81, pa82, pa83]
    simp only [Act.put, List.setIfInBounds_toArray, List.set_cons_zero, List.set_cons_succ]
    clear pa0 pa1 pa2 pa3 pa5 pa6 pa7 pa9 pa10 pa11 pa12 pa13 pa14 pa15 pa17 pa18 pa19 pa21 pa22 pa23 pa24 pa25 pa26 pa27 pa28 pa29 pa31 pa33 pa34 pa35 pa36 pa37 pa40 pa41 pa42 pa43 pa44 pa45 pa46 pa47 pa48 pa50 pa52 pa53 pa54 pa55 pa56 pa59 pa60 pa61 pa62 pa63 pa64 pa65 pa66 pa67 pa68 pa71 pa72 pa73 pa74 pa76 pa77 pa78 pa81 pa82 pa83
    generalize vs 4 = Upa4 at pa4 ⊢
    generalize vs 8 = Upa8 at pa8 ⊢
    generalize vs 16 = Upa16 at pa16 ⊢
    generalize vs 20 = Upa20 at pa20 ⊢
    generalize vs 30 = Upa30 at pa30 ⊢
    generalize vs 32 = Upa32 at pa32 ⊢
    generalize vs 38 = Upa38 at pa38 ⊢
    generalize vs 39 = Upa39 at pa39 ⊢
    generalize vs 49 = Upa49 at pa49 ⊢
    generalize vs 51 = Upa51 at pa51 ⊢
    generalize vs 57 = Upa57 at pa57 ⊢
    generalize vs 58 = Upa58 at pa58 ⊢
    generalize vs 69 = Upa69 at pa69 ⊢
    generalize vs 70 = Upa70 at pa70 ⊢
    generalize vs 75 = Upa75 at pa75 ⊢
    generalize vs 79 = Upa79 at pa79 ⊢
    generalize vs 80 = Upa80 at pa80 ⊢
    replace S := S.drew.below hk3
    clear pa4
    clear pa8
    clear pa16
    clear pa20
    clear pa30
    clear pa32
    clear pa38
    clear pa39
    clear pa49
    clear pa51
    clear pa57
    clear pa58
    clear pa69
    clear pa70
    clear pa75
    clear pa79
    clear pa80
    clear hk3
    go_upto_region 9 with fail
    refine wp_region_steps (m := 17) rfl (by kernel_rfl) (fun iΦ vΦ wΦ => (List.getD [fun vΦ _ => vΦ = .func (.func 29) #[] #[], fun vΦ _ => vΦ = .agg #[.bool b3, .slice A3 n3 c3, .bool d3, .slice B3 m3 e3], fun vΦ _ => vΦ = .agg #[.bool b3, .slice A3 n3 c3, .bool d3, .slice B3 m3 e3], fun vΦ wΦ => RatRep wΦ vΦ (-x), fun vΦ wΦ => RatRep wΦ vΦ (x + (-x)), fun vΦ _ => vΦ = .int .i64 s1, fun vΦ _ => vΦ = .bool false, fun vΦ _ => vΦ = .bool false, fun vΦ _ => vΦ = .func (.func 31) #[] #[], fun vΦ _ => vΦ = .func (.func 29) #[] #[], fun vΦ _ => vΦ = .agg #[.bool b3, .slice A3 n3 c3, .bool d3, .slice B3 m3 e3], fun vΦ _ => vΦ = .agg #[.bool b4, .slice A4 n4 c4, .bool d4, .slice B4 m4 e4], fun vΦ wΦ => RatRep wΦ vΦ (x + y), fun vΦ _ => vΦ = .agg #[.bool b4, .slice A4 n4 c4, .bool d4, .slice B4 m4 e4], fun vΦ wΦ => RatRep wΦ vΦ ((x + y) - y), fun vΦ _ => vΦ = .agg #[.bool b3, .slice A3 n3 c3, .bool d3, .slice B3 m3 e3], fun vΦ _ => vΦ = .bool true] iΦ (fun _ _ => True)) vΦ wΦ) [] ?_ ?_ ?_
    · intro i v w w' _ h hk
      refine stabL_get ?_ i v w w' h hk
      exact stab_cons st_e (stab_cons st_e (stab_cons st_e (stab_cons st_q (stab_cons st_q (stab_cons st_e (stab_cons st_e (stab_cons st_e (stab_cons st_e (stab_cons st_e (stab_cons st_e (stab_cons st_e (stab_cons st_q (stab_cons st_e (stab_cons st_q (stab_cons st_e (stab_cons st_e stab_nil))))))))))))))))
    · intro i hi vs w3 hk3 hd
      have S3 := S.drew.below hk3
      have a0 := S3.c 2 0 rfl rfl
      have a1 := S3.c 2 1 rfl rfl
      have a2 := S3.c 2 2 rfl rfl
      have a3 := S3.c 2 3 rfl rfl
      have a4 := S3.c 1 0 rfl rfl
      have a5 := S3.c 1 1 rfl rfl
      have a6 := S3.c 1 2 rfl rfl
      have a7 := S3.c 1 3 rfl rfl
      match i, hi with
      | 0, _ =>
        refine step_val0 [] (fun vΦ _ => vΦ = .func (.func 29) #[] #[]) rfl (by kernel_rfl) rfl (fun _ _ h => h) rfl fun K hK => ?_; clear hd; simp only [frD] at hK ⊢; go_simp
        exact hK _ _ (Below.refl _ _) rfl
      | 1, _ =>
        refine step_val0 [] (fun vΦ _ => vΦ = .agg #[.bool b3, .slice A3 n3 c3, .bool d3, .slice B3 m3 e3]) rfl (by kernel_rfl) rfl (fun _ _ h => h) rfl fun K hK => ?_; clear hd; simp only [frD] at hK ⊢; go_simp
        exact hK _ _ (Below.refl _ _) rfl
      | 2, _ =>
        refine step_val0 [] (fun vΦ _ => vΦ = .agg #[.bool b3, .slice A3 n3 c3, .bool d3, .slice B3 m3 e3]) rfl (by kernel_rfl) rfl (fun _ _ h => h) rfl fun K hK => ?_; clear hd; simp only [frD] at hK ⊢; go_simp
        exact hK _ _ (Below.refl _ _) rfl
      | 3, _ =>
        have qe2 : (vs 2) = .agg #[.bool b3, .slice A3 n3 c3, .bool d3, .slice B3 m3 e3] := hd 2 (cm (by kernel_rfl))
        refine step_call (F := 34) (X := .func (.func 34) #[] #[]) (A := #[(vs 2)]) (B := #[.agg #[.bool b3, .slice A3 n3 c3, .bool d3, .slice B3 m3 e3]]) [(2, some 113)] (fun vΦ wΦ => RatRep wΦ vΦ (-x)) rfl (by kernel_rfl) (fun _ _ h => h) rfl (wanted_none rfl) rfl rfl (by kernel_rfl) rfl (by kernel_rfl) (by rw [qe2]) Tryz.func34 (by kernel_rfl) (by kernel_rfl) ?_
        refine ((fneg_num ((S3.li 2 rfl).num))).mono ?_; rintro e w4 ⟨U, rfl, hr, hk4⟩; exact ⟨_, rfl, hk4, hr⟩
      | 4, _ =>
        have qe0 : (vs 0) = .func (.func 29) #[] #[] := hd 0 (cm (by kernel_rfl)); have qe1 : (vs 1) = .agg #[.bool b3, .slice A3 n3 c3, .bool d3, .slice B3 m3 e3] := hd 1 (cm (by kernel_rfl)); have h3 : RatRep w3 (vs 3) (-x) := hd 3 (cm (by kernel_rfl))
        refine step_call (F := 29) (X := (vs 0)) (A := #[(vs 1), (vs 3)]) (B := #[.agg #[.bool b3, .slice A3 n3 c3, .bool d3, .slice B3 m3 e3], (vs 3)]) [(0, some 111), (1, some 112), (3, some 114)] (fun vΦ wΦ => RatRep wΦ vΦ (x + (-x))) rfl (by kernel_rfl) (fun _ _ h => h) rfl (wanted_none rfl) rfl rfl (by kernel_rfl) qe0 (by kernel_rfl) (by rw [qe1]) Tryz.func29 (by kernel_rfl) (by kernel_rfl) ?_
        refine ((fadd_num ((S3.li 2 rfl).num) (h3.num (by omega)))).mono ?_; rintro e w4 ⟨U, rfl, hr, hk4⟩; exact ⟨_, rfl, hk4, hr⟩
      | 5, _ =>
        have h4 : RatRep w3 (vs 4) (x + (-x)) := hd 4 (cm (by kernel_rfl))
        refine step_call (F := 33) (X := .func (.func 33) #[] #[]) (A := #[(vs 4)]) (B := #[(vs 4)]) [(4, some 115)] (fun vΦ _ => vΦ = .int .i64 s1) rfl (by kernel_rfl) (fun _ _ h => h) rfl (wanted_none rfl) rfl rfl (by kernel_rfl) rfl (by kernel_rfl) rfl Tryz.func33 (by kernel_rfl) (by kernel_rfl) ?_
        refine ((fsign_s (h4.num (by omega)) HS1.out)).mono ?_; rintro e w4 ⟨rfl, hk4⟩; exact ⟨_, rfl, hk4, rfl⟩
      | 6, _ =>
        have qe5 : (vs 5) = .int .i64 s1 := hd 5 (cm (by kernel_rfl))
        refine step_val0 [(5, some 116)] (fun vΦ _ => vΦ = .bool false) rfl (by kernel_rfl) rfl (fun _ _ h => h) rfl fun K hK => ?_; clear hd; simp only [frD, qe5] at hK ⊢; go_simp
        exact hK _ _ (Below.refl _ _) rfl
      | 7, _ =>
        have qe5 : (vs 5) = .int .i64 s1 := hd 5 (cm (by kernel_rfl)); have qe6 : (vs 6) = .bool false := hd 6 (cm (by kernel_rfl))
        refine step_val0 [(5, some 116), (6, some 117)] (fun vΦ _ => vΦ = .bool false) rfl (by kernel_rfl) rfl (fun _ _ h => h) rfl fun K hK => ?_; clear hd; simp only [frD, qe5, qe6] at hK ⊢; go_simp
        exact hK _ _ (Below.refl _ _) rfl
      | 8, _ =>
        have qe7 : (vs 7) = .bool false := hd 7 (cm (by kernel_rfl))
        refine step_valg [(7, some 118)] (fun vΦ _ => vΦ = .func (.func 31) #[] #[]) rfl (by kernel_rfl) (fun _ _ h => h) rfl (wanted_some 118 rfl (by rfl) (by kernel_rfl) qe7) fun K hK => ?_; clear hd; simp only [frD, qe7] at hK ⊢; go_simp
        exact hK _ _ (Below.refl _ _) rfl
      | 9, _ =>
        have qe7 : (vs 7) = .bool false := hd 7 (cm (by kernel_rfl))
        refine step_valg [(7, some 118)] (fun vΦ _ => vΦ = .func (.func 29) #[] #[]) rfl (by kernel_rfl) (fun _ _ h => h) rfl (wanted_some 118 rfl (by rfl) (by kernel_rfl) qe7) fun K hK => ?_; clear hd; simp only [frD, qe7] at hK ⊢; go_simp
        exact hK _ _ (Below.refl _ _) rfl
      | 10, _ =>
        have qe7 : (vs 7) = .bool false := hd 7 (cm (by kernel_rfl))
        refine step_valg [(7, some 118)] (fun vΦ _ => vΦ = .agg #[.bool b3, .slice A3 n3 c3, .bool d3, .slice B3 m3 e3]) rfl (by kernel_rfl) (fun _ _ h => h) rfl (wanted_some 118 rfl (by rfl) (by kernel_rfl) qe7) fun K hK => ?_; clear hd; simp only [frD, qe7] at hK ⊢; go_simp
        exact hK _ _ (Below.refl _ _) rfl
      | 11, _ =>
        have qe7 : (vs 7) = .bool false := hd 7 (cm (by kernel_rfl))
        refine step_valg [(7, some 118)] (fun vΦ _ => vΦ = .agg #[.bool b4, .slice A4 n4 c4, .bool d4, .slice B4 m4 e4]) rfl (by kernel_rfl) (fun _ _ h => h) rfl (wanted_some 118 rfl (by rfl) (by kernel_rfl) qe7) fun K hK => ?_; clear hd; simp only [frD, qe7] at hK ⊢; go_simp
        exact hK _ _ (Below.refl _ _) rfl
      | 12, _ =>
        have qe7 : (vs 7) = .bool false := hd 7 (cm (by kernel_rfl)); have qe9 : (vs 9) = .func (.func 29) #[] #[] := hd 9 (cm (by kernel_rfl)); have qe10 : (vs 10) = .agg #[.bool b3, .slice A3 n3 c3, .bool d3, .slice B3 m3 e3] := hd 10 (cm (by kernel_rfl)); have qe11 : (vs 11) = .agg #[.bool b4, .slice A4 n4 c4, .bool d4, .slice B4 m4 e4] := hd 11 (cm (by kernel_rfl))
        refine step_call (F := 29) (X := (vs 9)) (A := #[(vs 10), (vs 11)]) (B := #[.agg #[.bool b3, .slice A3 n3 c3, .bool d3, .slice B3 m3 e3], .agg #[.bool b4, .slice A4 n4 c4, .bool d4, .slice B4 m4 e4]]) [(7, some 118), (9, some 120), (10, some 121), (11, some 122)] (fun vΦ wΦ => RatRep wΦ vΦ (x + y)) rfl (by kernel_rfl) (fun _ _ h => h) rfl (wanted_some 118 rfl (by rfl) (by kernel_rfl) qe7) rfl rfl (by kernel_rfl) qe9 (by kernel_rfl) (by rw [qe10, qe11]) Tryz.func29 (by kernel_rfl) (by kernel_rfl) ?_
        refine ((fadd_num ((S3.li 2 rfl).num) ((S3.li 1 rfl).num))).mono ?_; rintro e w4 ⟨U, rfl, hr, hk4⟩; exact ⟨_, rfl, hk4, hr⟩
      | 13, _ =>
        have qe7 : (vs 7) = .bool false := hd 7 (cm (by kernel_rfl))
        refine step_valg [(7, some 118)] (fun vΦ _ => vΦ = .agg #[.bool b4, .slice A4 n4 c4, .bool d4, .slice B4 m4 e4]) rfl (by kernel_rfl) (fun _ _ h => h) rfl (wanted_some 118 rfl (by rfl) (by kernel_rfl) qe7) fun K hK => ?_; clear hd; simp only [frD, qe7] at hK ⊢; go_simp
        exact hK _ _ (Below.refl _ _) rfl
      | 14, _ =>
        have qe7 : (vs 7) = .bool false := hd 7 (cm (by kernel_rfl)); have h12 : RatRep w3 (vs 12) (x + y) := hd 12 (cm (by kernel_rfl)); have qe13 : (vs 13) = .agg #[.bool b4, .slice A4 n4 c4, .bool d4, .slice B4 m4 e4] := hd 13 (cm (by kernel_rfl))
        refine step_call (F := 35) (X := .func (.func 35) #[] #[]) (A := #[(vs 12), (vs 13)]) (B := #[(vs 12), .agg #[.bool b4, .slice A4 n4 c4, .bool d4, .slice B4 m4 e4]]) [(7, some 118), (12, some 123), (13, some 124)] (fun vΦ wΦ => RatRep wΦ vΦ ((x + y) - y)) rfl (by kernel_rfl) (fun _ _ h => h) rfl (wanted_some 118 rfl (by rfl) (by kernel_rfl) qe7) rfl rfl (by kernel_rfl) rfl (by kernel_rfl) (by rw [qe13]) Tryz.func35 (by kernel_rfl) (by kernel_rfl) ?_
        refine ((fsub_num (h12.num (by omega)) ((S3.li 1 rfl).num))).mono ?_; rintro e w4 ⟨U, rfl, hr, hk4⟩; exact ⟨_, rfl, hk4, hr⟩
      | 15, _ =>
        have qe7 : (vs 7) = .bool false := hd 7 (cm (by kernel_rfl))
        refine step_valg [(7, some 118)] (fun vΦ _ => vΦ = .agg #[.bool b3, .slice A3 n3 c3, .bool d3, .slice B3 m3 e3]) rfl (by kernel_rfl) (fun _ _ h => h) rfl (wanted_some 118 rfl (by rfl) (by kernel_rfl) qe7) fun K hK => ?_; clear hd; simp only [frD, qe7] at hK ⊢; go_simp
        exact hK _ _ (Below.refl _ _) rfl
      | 16, _ =>
        have qe7 : (vs 7) = .bool false := hd 7 (cm (by kernel_rfl)); have qe8 : (vs 8) = .func (.func 31) #[] #[] := hd 8 (cm (by kernel_rfl)); have h14 : RatRep w3 (vs 14) ((x + y) - y) := hd 14 (cm (by kernel_rfl)); have qe15 : (vs 15) = .agg #[.bool b3, .slice A3 n3 c3, .bool d3, .slice B3 m3 e3] := hd 15 (cm (by kernel_rfl))
        refine step_call (F := 31) (X := (vs 8)) (A := #[(vs 14), (vs 15)]) (B := #[(vs 14), .agg #[.bool b3, .slice A3 n3 c3, .bool d3, .slice B3 m3 e3]]) [(7, some 118), (8, some 119), (14, some 125), (15, some 126)] (fun vΦ _ => vΦ = .bool true) rfl (by kernel_rfl) (fun _ _ h => h) rfl (wanted_some 118 rfl (by rfl) (by kernel_rfl) qe7) rfl rfl (by kernel_rfl) qe8 (by kernel_rfl) (by rw [qe15]) Tryz.func31 (by kernel_rfl) (by kernel_rfl) ?_
        refine ((feq_s (h14.num (by omega)) ((S3.li 2 rfl).num) (add_sub_self x y))).mono ?_; rintro e w4 ⟨rfl, hk4⟩; exact ⟨_, rfl, hk4, rfl⟩
      | i + 17, hi => exact absurd hi (by omega)
    · intro vs W7 hk3 hΦ _
      simp only [List.drop_succ_cons, List.drop_zero]
      rw [fr_frD, show (List.range 17).map _ = [(0, some 111), (1, some 112), (2, some 113), (3, some 114), (4, some 115), (5, some 116), (6, some 117), (7, some 118), (8, some 119), (9, some 120), (10, some 121), (11, some 122), (12, some 123), (13, some 124), (14, some 125), (15, some 126), (16, some 127)] by kernel_rfl]
      have pb0 : (vs 0) = .func (.func 29) #[] #[] := hΦ 0 (by decide)
      have pb1 : (vs 1) = .agg #[.bool b3, .slice A3 n3 c3, .bool d3, .slice B3 m3 e3] := hΦ 1 (by decide)
      have pb2 : (vs 2) = .agg #[.bool b3, .slice A3 n3 c3, .bool d3, .slice B3 m3 e3] := hΦ 2 (by decide)
      have pb3 : RatRep W7 (vs 3) (-x) := hΦ 3 (by decide)
      have pb4 : RatRep W7 (vs 4) (x + (-x)) := hΦ 4 (by decide)
      have pb5 : (vs 5) = .int .i64 s1 := hΦ 5 (by decide)
      have pb6 : (vs 6) = .bool false := hΦ 6 (by decide)
      have pb7 : (vs 7) = .bool false := hΦ 7 (by decide)
      have pb8 : (vs 8) = .func (.func 31) #[] #[] := hΦ 8 (by decide)
      have pb9 : (vs 9) = .func (.func 29) #[] #[] := hΦ 9 (by decide)
      have pb10 : (vs 10) = .agg #[.bool b3, .slice A3 n3 c3, .bool d3, .slice B3 m3 e3] := hΦ 10 (by decide)
      have pb11 : (vs 11) = .agg #[.bool b4, .slice A4 n4 c4, .bool d4, .slice B4 m4 e4] := hΦ 11 (by decide)
      have pb12 : RatRep W7 (vs 12) (x + y) := hΦ 12 (by decide)
      have pb13 : (vs 13) = .agg #[.bool b4, .slice A4 n4 c4, .bool d4, .slice B4 m4 e4] := hΦ 13 (by decide)
      have pb14 : RatRep W7 (vs 14) ((x + y) - y) := hΦ 14 (by decide)
      have pb15 : (vs 15) = .agg #[.bool b3, .slice A3 n3 c3, .bool d3, .slice B3 m3 e3] := hΦ 15 (by decide)
      have pb16 : (vs 16) = .bool true := hΦ 16 (by decide)
      clear hΦ
      simp only [frD, pb0, pb1, pb2, pb5, pb6, pb7, pb8, pb9, pb10, pb11, pb13, pb15, pb16]
      simp only [Act.put, List.setIfInBounds_toArray, List.set_cons_zero, List.set_cons_succ]
      clear pb0 pb1 pb2 pb5 pb6 pb7 pb8 pb9 pb10 pb11 pb13 pb15 pb16
      generalize vs 3 = Upb3 at pb3 ⊢
      generalize vs 4 = Upb4 at pb4 ⊢
      generalize vs 12 = Upb12 at pb12 ⊢
      generalize vs 14 = Upb14 at pb14 ⊢
      replace S := S.drew.below hk3
      clear pb3
      clear pb4
      clear pb12
      clear pb14
      clear hk3
      have r1_0 := S.c 1 0 rfl rfl
      have r1_1 := S.c 1 1 rfl rfl
      have r1_2 := S.c 1 2 rfl rfl
      have r1_3 := S.c 1 3 rfl rfl
      go_wp2_with fail
      refine ((fsign_s ((S.li 1 rfl).num) HS2.out)).mono ?_
      rintro e W8 ⟨rfl, hk⟩
      replace S := S.below hk
      clear hk
      clear r1_0 r1_1 r1_2 r1_3
      rcases Bool.eq_false_or_eq_true ((s2 != 0)) with t2 | t2
      · skip
        have r0_0 := S.c 2 0 rfl rfl
        have r0_1 := S.c 2 1 rfl rfl
        have r0_2 := S.c 2 2 rfl rfl
        have r0_3 := S.c 2 3 rfl rfl
        have r1_0 := S.c 1 0 rfl rfl
        have r1_1 := S.c 1 1 rfl rfl
        have r1_2 := S.c 1 2 rfl rfl
        have r1_3 := S.c 1 3 rfl rfl
        go_wp2_with fail
        refine ((rcode_eq (fdivide_num ((S.li 2 rfl).num) ((S.li 1 rfl).num)) (divC_ne HS2.out t2) rfl)).mono ?_
        rintro e W9 ⟨U9, rfl, hp, hk⟩
        rw [if_pos rfl] at hp
        obtain ⟨b6, A6, n6, c6, d6, B6, m6, e6, rfl⟩ := hp.open_
        replace S := (S.below hk).addQ hp
        clear hk hp
        clear r0_0 r0_1 r0_2 r0_3 r1_0 r1_1 r1_2 r1_3
        go_upto_region 13 with fail
        replace S := (S.alloc 28 [.bool b6, .slice A6 n6 c6, .bool d6, .slice B6 m6 e6])
        obtain ⟨W10, eW, S⟩ := S.pack
        rw [eW]
        clear eW
        generalize W9.heap.size = P1 at *
        refine wp_region_steps (m := 10) rfl (by kernel_rfl) (fun iΦ vΦ wΦ => (List.getD [fun vΦ _ => vΦ = .int .i64 0, fun vΦ _ => vΦ = .bool false, fun vΦ _ => vΦ = .bool false, fun vΦ _ => vΦ = .func (.func 31) #[] #[], fun vΦ _ => vΦ = .func (.func 30) #[] #[], fun vΦ _ => vΦ = .agg #[.bool b6, .slice A6 n6 c6, .bool d6, .slice B6 m6 e6], fun vΦ _ => vΦ = .agg #[.bool b4, .slice A4 n4 c4, .bool d4, .slice B4 m4 e4], fun vΦ wΦ => RatRep wΦ vΦ ((x / y) * y), fun vΦ _ => vΦ = .agg #[.bool b3, .slice A3 n3 c3, .bool d3, .slice B3 m3 e3], fun vΦ _ => vΦ = .bool true] iΦ (fun _ _ => True)) vΦ wΦ) [] ?_ ?_ ?_
        · intro i v w w' _ h hk
          refine stabL_get ?_ i v w w' h hk
          exact stab_cons st_e (stab_cons st_e (stab_cons st_e (stab_cons st_e (stab_cons st_e (stab_cons st_e (stab_cons st_e (stab_cons st_q (stab_cons st_e (stab_cons st_e stab_nil)))))))))
        · intro i hi vs w3 hk3 hd
          have S3 := S.drew.below hk3
          have a0 := S3.c 3 0 rfl rfl
          have a1 := S3.c 3 1 rfl rfl
          have a2 := S3.c 3 2 rfl rfl
          have a3 := S3.c 3 3 rfl rfl
          have a4 := S3.c 2 0 rfl rfl
          have a5 := S3.c 2 1 rfl rfl
          have a6 := S3.c 2 2 rfl rfl
          have a7 := S3.c 2 3 rfl rfl
          have a8 := S3.c 0 0 rfl rfl
          have a9 := S3.c 0 1 rfl rfl
          have a10 := S3.c 0 2 rfl rfl
          have a11 := S3.c 0 3 rfl rfl
          match i, hi with
          | 0, _ =>
            refine step_val0 [] (fun vΦ _ => vΦ = .int .i64 0) rfl (by kernel_rfl) rfl (fun _ _ h => h) rfl fun K hK => ?_; clear hd; simp only [frD] at hK ⊢; go_simp
            exact hK _ _ (Below.refl _ _) rfl
          | 1, _ =>
            have qe0 : (vs 0) = .int .i64 0 := hd 0 (cm (by kernel_rfl))
            refine step_val0 [(0, some 139)] (fun vΦ _ => vΦ = .bool false) rfl (by kernel_rfl) rfl (fun _ _ h => h) rfl fun K hK => ?_; clear hd; simp only [frD, qe0] at hK ⊢; go_simp
            exact hK _ _ (Below.refl _ _) rfl
          | 2, _ =>
            have qe1 : (vs 1) = .bool false := hd 1 (cm (by kernel_rfl))
            refine step_val0 [(1, some 140)] (fun vΦ _ => vΦ = .bool false) rfl (by kernel_rfl) rfl (fun _ _ h => h) rfl fun K hK => ?_; clear hd; simp only [frD, qe1] at hK ⊢; go_simp
            exact hK _ _ (Below.refl _ _) rfl
          | 3, _ =>
            have qe2 : (vs 2) = .bool false := hd 2 (cm (by kernel_rfl))
            refine step_valg [(2, some 141)] (fun vΦ _ => vΦ = .func (.func 31) #[] #[]) rfl (by kernel_rfl) (fun _ _ h => h) rfl (wanted_some 141 rfl (by rfl) (by kernel_rfl) qe2) fun K hK => ?_; clear hd; simp only [frD, qe2] at hK ⊢; go_simp
            exact hK _ _ (Below.refl _ _) rfl
          | 4, _ =>
            have qe2 : (vs 2) = .bool false := hd 2 (cm (by kernel_rfl))
            refine step_valg [(2, some 141)] (fun vΦ _ => vΦ = .func (.func 30) #[] #[]) rfl (by kernel_rfl) (fun _ _ h => h) rfl (wanted_some 141 rfl (by rfl) (by kernel_rfl) qe2) fun K hK => ?_; clear hd; simp only [frD, qe2] at hK ⊢; go_simp
            exact hK _ _ (Below.refl _ _) rfl
          | 5, _ =>
            have qe2 : (vs 2) = .bool false := hd 2 (cm (by kernel_rfl))
            refine step_valg [(2, some 141)] (fun vΦ _ => vΦ = .agg #[.bool b6, .slice A6 n6 c6, .bool d6, .slice B6 m6 e6]) rfl (by kernel_rfl) (fun _ _ h => h) rfl (wanted_some 141 rfl (by rfl) (by kernel_rfl) qe2) fun K hK => ?_; clear hd; simp only [frD, qe2] at hK ⊢; go_simp
            exact hK _ _ (Below.refl _ _) rfl
          | 6, _ =>
            have qe2 : (vs 2) = .bool false := hd 2 (cm (by kernel_rfl))
            refine step_valg [(2, some 141)] (fun vΦ _ => vΦ = .agg #[.bool b4, .slice A4 n4 c4, .bool d4, .slice B4 m4 e4]) rfl (by kernel_rfl) (fun _ _ h => h) rfl (wanted_some 141 rfl (by rfl) (by kernel_rfl) qe2) fun K hK => ?_; clear hd; simp only [frD, qe2] at hK ⊢; go_simp
            exact hK _ _ (Below.refl _ _) rfl
          | 7, _ =>
            have qe2 : (vs 2) = .bool false := hd 2 (cm (by kernel_rfl)); have qe4 : (vs 4) = .func (.func 30) #[] #[] := hd 4 (cm (by kernel_rfl)); have qe5 : (vs 5) = .agg #[.bool b6, .slice A6 n6 c6, .bool d6, .slice B6 m6 e6] := hd 5 (cm (by kernel_rfl)); have qe6 : (vs 6) = .agg #[.bool b4, .slice A4 n4 c4, .bool d4, .slice B4 m4 e4] := hd 6 (cm (by kernel_rfl))
            refine step_call (F := 30) (X := (vs 4)) (A := #[(vs 5), (vs 6)]) (B := #[.agg #[.bool b6, .slice A6 n6 c6, .bool d6, .slice B6 m6 e6], .agg #[.bool b4, .slice A4 n4 c4, .bool d4, .slice B4 m4 e4]]) [(2, some 141), (4, some 143), (5, some 144), (6, some 145)] (fun vΦ wΦ => RatRep wΦ vΦ ((x / y) * y)) rfl (by kernel_rfl) (fun _ _ h => h) rfl (wanted_some 141 rfl (by rfl) (by kernel_rfl) qe2) rfl rfl (by kernel_rfl) qe4 (by kernel_rfl) (by rw [qe5, qe6]) Tryz.func30 (by kernel_rfl) (by kernel_rfl) ?_
            refine ((fmul_num ((S3.qi 0 rfl).num (by omega)) ((S3.li 2 rfl).num))).mono ?_; rintro e w4 ⟨U, rfl, hr, hk4⟩; exact ⟨_, rfl, hk4, hr⟩
          | 8, _ =>
            have qe2 : (vs 2) = .bool false := hd 2 (cm (by kernel_rfl))
            refine step_valg [(2, some 141)] (fun vΦ _ => vΦ = .agg #[.bool b3, .slice A3 n3 c3, .bool d3, .slice B3 m3 e3]) rfl (by kernel_rfl) (fun _ _ h => h) rfl (wanted_some 141 rfl (by rfl) (by kernel_rfl) qe2) fun K hK => ?_; clear hd; simp only [frD, qe2] at hK ⊢; go_simp
            exact hK _ _ (Below.refl _ _) rfl
          | 9, _ =>
            have qe2 : (vs 2) = .bool false := hd 2 (cm (by kernel_rfl)); have qe3 : (vs 3) = .func (.func 31) #[] #[] := hd 3 (cm (by kernel_rfl)); have h7 : RatRep w3 (vs 7) ((x / y) * y) := hd 7 (cm (by kernel_rfl)); have qe8 : (vs 8) = .agg #[.bool b3, .slice A3 n3 c3, .bool d3, .slice B3 m3 e3] := hd 8 (cm (by kernel_rfl))
            refine step_call (F := 31) (X := (vs 3)) (A := #[(vs 7), (vs 8)]) (B := #[(vs 7), .agg #[.bool b3, .slice A3 n3 c3, .bool d3, .slice B3 m3 e3]]) [(2, some 141), (3, some 142), (7, some 146), (8, some 147)] (fun vΦ _ => vΦ = .bool true) rfl (by kernel_rfl) (fun _ _ h => h) rfl (wanted_some 141 rfl (by rfl) (by kernel_rfl) qe2) rfl rfl (by kernel_rfl) qe3 (by kernel_rfl) (by rw [qe8]) Tryz.func31 (by kernel_rfl) (by kernel_rfl) ?_
            refine ((feq_s (h7.num (by omega)) ((S3.li 3 rfl).num) (Rat.div_mul_cancel (ne_of_sgn HS2.out t2)))).mono ?_; rintro e w4 ⟨rfl, hk4⟩; exact ⟨_, rfl, hk4, rfl⟩
          | i + 10, hi => exact absurd hi (by omega)
        · intro vs W11 hk3 hΦ _
          simp only [List.drop_succ_cons, List.drop_zero]
          rw [fr_frD, show (List.range 10).map _ = [(0, some 139), (1, some 140), (2, some 141), (3, some 142), (4, some 143), (5, some 144), (6, some 145), (7, some 146), (8, some 147), (9, some 148)] by kernel_rfl]
          have pc0 : (vs 0) = .int .i64 0 := hΦ 0 (by decide)
          have pc1 : (vs 1) = .bool false := hΦ 1 (by decide)
          have pc2 : (vs 2) = .bool false := hΦ 2 (by decide)
          have pc3 : (vs 3) = .func (.func 31) #[] #[] := hΦ 3 (by decide)
          have pc4 : (vs 4) = .func (.func 30) #[] #[] := hΦ 4 (by decide)
          have pc5 : (vs 5) = .agg #[.bool b6, .slice A6 n6 c6, .bool d6, .slice B6 m6 e6] := hΦ 5 (by decide)
          have pc6 : (vs 6) = .agg #[.bool b4, .slice A4 n4 c4, .bool d4, .slice B4 m4 e4] := hΦ 6 (by decide)
          have pc7 : RatRep W11 (vs 7) ((x / y) * y) := hΦ 7 (by decide)
          have pc8 : (vs 8) = .agg #[.bool b3, .slice A3 n3 c3, .bool d3, .slice B3 m3 e3] := hΦ 8 (by decide)
          have pc9 : (vs 9) = .bool true := hΦ 9 (by decide)
          clear hΦ
          simp only [frD, pc0, pc1, pc2, pc3, pc4, pc5, pc6, pc8, pc9]
          simp only [Act.put, List.setIfInBounds_toArray, List.set_cons_zero, List.set_cons_succ]
          clear pc0 pc1 pc2 pc3 pc4 pc5 pc6 pc8 pc9
          generalize vs 7 = Upc7 at pc7 ⊢
          replace S := S.drew.below hk3
          clear pc7
          clear hk3
          go_upto_region 15 with fail
          refine wp_region_steps (m := 21) rfl (by kernel_rfl) (fun iΦ vΦ wΦ => (List.getD [fun vΦ _ => vΦ = .agg #[.bool b3, .slice A3 n3 c3, .bool d3, .slice B3 m3 e3], fun vΦ _ => vΦ = .agg #[.bool b4, .slice A4 n4 c4, .bool d4, .slice B4 m4 e4], fun vΦ _ => vΦ = .int .i64 s3, fun vΦ _ => vΦ = .agg #[.bool b4, .slice A4 n4 c4, .bool d4, .slice B4 m4 e4], fun vΦ _ => vΦ = .agg #[.bool b3, .slice A3 n3 c3, .bool d3, .slice B3 m3 e3], fun vΦ _ => vΦ = .int .i64 (-s3), fun vΦ _ => vΦ = .int .i64 s3, fun vΦ _ => vΦ = .bool false, fun vΦ _ => vΦ = .bool false, fun vΦ _ => vΦ = .agg #[.bool b3, .slice A3 n3 c3, .bool d3, .slice B3 m3 e3], fun vΦ _ => vΦ = .agg #[.bool b4, .slice A4 n4 c4, .bool d4, .slice B4 m4 e4], fun vΦ _ => vΦ = .int .i64 s3, fun vΦ _ => vΦ = .func (.func 29) #[] #[], fun vΦ _ => vΦ = .agg #[.bool b3, .slice A3 n3 c3, .bool d3, .slice B3 m3 e3], fun vΦ _ => vΦ = .agg #[.bool b5, .slice A5 n5 c5, .bool d5, .slice B5 m5 e5], fun vΦ wΦ => RatRep wΦ vΦ (x + z), fun vΦ _ => vΦ = .func (.func 29) #[] #[], fun vΦ _ => vΦ = .agg #[.bool b4, .slice A4 n4 c4, .bool d4, .slice B4 m4 e4], fun vΦ _ => vΦ = .agg #[.bool b5, .slice A5 n5 c5, .bool d5, .slice B5 m5 e5], fun vΦ wΦ => RatRep wΦ vΦ (y + z), fun vΦ _ => vΦ = .int .i64 s3] iΦ (fun _ _ => True)) vΦ wΦ) [] ?_ ?_ ?_
          · intro i v w w' _ h hk
            refine stabL_get ?_ i v w w' h hk
            exact stab_cons st_e (stab_cons st_e (stab_cons st_e (stab_cons st_e (stab_cons st_e (stab_cons st_e (stab_cons st_e (stab_cons st_e (stab_cons st_e (stab_cons st_e (stab_cons st_e (stab_cons st_e (stab_cons st_e (stab_cons st_e (stab_cons st_e (stab_cons st_q (stab_cons st_e (stab_cons st_e (stab_cons st_e (stab_cons st_q (stab_cons st_e stab_nil))))))))))))))))))))
          · intro i hi vs w3 hk3 hd
            have S3 := S.drew.below hk3
            have a0 := S3.c 3 0 rfl rfl
            have a1 := S3.c 3 1 rfl rfl
            have a2 := S3.c 3 2 rfl rfl
            have a3 := S3.c 3 3 rfl rfl
            have a4 := S3.c 2 0 rfl rfl
            have a5 := S3.c 2 1 rfl rfl
            have a6 := S3.c 2 2 rfl rfl
            have a7 := S3.c 2 3 rfl rfl
            have a8 := S3.c 1 0 rfl rfl
            have a9 := S3.c 1 1 rfl rfl
            have a10 := S3.c 1 2 rfl rfl
            have a11 := S3.c 1 3 rfl rfl
            match i, hi with
            | 0, _ =>
              refine step_val0 [] (fun vΦ _ => vΦ = .agg #[.bool b3, .slice A3 n3 c3, .bool d3, .slice B3 m3 e3]) rfl (by kernel_rfl) rfl (fun _ _ h => h) rfl fun K hK => ?_; clear hd; simp only [frD] at hK ⊢; go_simp
              exact hK _ _ (Below.refl _ _) rfl
            | 1, _ =>
              refine step_val0 [] (fun vΦ _ => vΦ = .agg #[.bool b4, .slice A4 n4 c4, .bool d4, .slice B4 m4 e4]) rfl (by kernel_rfl) rfl (fun _ _ h => h) rfl fun K hK => ?_; clear hd; simp only [frD] at hK ⊢; go_simp
              exact hK _ _ (Below.refl _ _) rfl
            | 2, _ =>
              have qe0 : (vs 0) = .agg #[.bool b3, .slice A3 n3 c3, .bool d3, .slice B3 m3 e3] := hd 0 (cm (by kernel_rfl)); have qe1 : (vs 1) = .agg #[.bool b4, .slice A4 n4 c4, .bool d4, .slice B4 m4 e4] := hd 1 (cm (by kernel_rfl))
              refine step_call (F := 32) (X := .func (.func 32) #[] #[]) (A := #[(vs 0), (vs 1)]) (B := #[.agg #[.bool b3, .slice A3 n3 c3, .bool d3, .slice B3 m3 e3], .agg #[.bool b4, .slice A4 n4 c4, .bool d4, .slice B4 m4 e4]]) [(0, some 151), (1, some 152)] (fun vΦ _ => vΦ = .int .i64 s3) rfl (by kernel_rfl) (fun _ _ h => h) rfl (wanted_none rfl) rfl rfl (by kernel_rfl) rfl (by kernel_rfl) (by rw [qe0, qe1]) Tryz.func32 (by kernel_rfl) (by kernel_rfl) ?_
              refine ((fcompare_s ((S3.li 3 rfl).num) ((S3.li 2 rfl).num) HS3.out)).mono ?_; rintro e w4 ⟨rfl, hk4⟩; exact ⟨_, rfl, hk4, rfl⟩
            | 3, _ =>
              refine step_val0 [] (fun vΦ _ => vΦ = .agg #[.bool b4, .slice A4 n4 c4, .bool d4, .slice B4 m4 e4]) rfl (by kernel_rfl) rfl (fun _ _ h => h) rfl fun K hK => ?_; clear hd; simp only [frD] at hK ⊢; go_simp
              exact hK _ _ (Below.refl _ _) rfl
            | 4, _ =>
              refine step_val0 [] (fun vΦ _ => vΦ = .agg #[.bool b3, .slice A3 n3 c3, .bool d3, .slice B3 m3 e3]) rfl (by kernel_rfl) rfl (fun _ _ h => h) rfl fun K hK => ?_; clear hd; simp only [frD] at hK ⊢; go_simp
              exact hK _ _ (Below.refl _ _) rfl
            | 5, _ =>
              have qe2 : (vs 2) = .int .i64 s3 := hd 2 (cm (by kernel_rfl)); have qe3 : (vs 3) = .agg #[.bool b4, .slice A4 n4 c4, .bool d4, .slice B4 m4 e4] := hd 3 (cm (by kernel_rfl)); have qe4 : (vs 4) = .agg #[.bool b3, .slice A3 n3 c3, .bool d3, .slice B3 m3 e3] := hd 4 (cm (by kernel_rfl))
              refine step_call (F := 32) (X := .func (.func 32) #[] #[]) (A := #[(vs 3), (vs 4)]) (B := #[.agg #[.bool b4, .slice A4 n4 c4, .bool d4, .slice B4 m4 e4], .agg #[.bool b3, .slice A3 n3 c3, .bool d3, .slice B3 m3 e3]]) [(2, some 153), (3, some 154), (4, some 155)] (fun vΦ _ => vΦ = .int .i64 (-s3)) rfl (by kernel_rfl) (fun _ _ h => h) rfl (wanted_none rfl) rfl rfl (by kernel_rfl) rfl (by kernel_rfl) (by rw [qe3, qe4]) Tryz.func32 (by kernel_rfl) (by kernel_rfl) ?_
              refine ((fcompare_s ((S3.li 2 rfl).num) ((S3.li 3 rfl).num) HC.out)).mono ?_; rintro e w4 ⟨rfl, hk4⟩; exact ⟨_, rfl, hk4, rfl⟩
            | 6, _ =>
              have qe5 : (vs 5) = .int .i64 (-s3) := hd 5 (cm (by kernel_rfl))
              refine step_val0 [(5, some 156)] (fun vΦ _ => vΦ = .int .i64 s3) rfl (by kernel_rfl) rfl (fun _ _ h => h) rfl fun K hK => ?_; clear hd; simp only [frD, qe5] at hK ⊢; go_simp
              exact hK _ _ (Below.refl _ _) rfl
            | 7, _ =>
              have qe2 : (vs 2) = .int .i64 s3 := hd 2 (cm (by kernel_rfl)); have qe6 : (vs 6) = .int .i64 s3 := hd 6 (cm (by kernel_rfl))
              refine step_val0 [(2, some 153), (6, some 157)] (fun vΦ _ => vΦ = .bool false) rfl (by kernel_rfl) rfl (fun _ _ h => h) rfl fun K hK => ?_; clear hd; simp only [frD, qe2, qe6] at hK ⊢; go_simp
              exact hK _ _ (Below.refl _ _) rfl
            | 8, _ =>
              have qe5 : (vs 5) = .int .i64 (-s3) := hd 5 (cm (by kernel_rfl)); have qe7 : (vs 7) = .bool false := hd 7 (cm (by kernel_rfl))
              refine step_val0 [(5, some 156), (7, some 158)] (fun vΦ _ => vΦ = .bool false) rfl (by kernel_rfl) rfl (fun _ _ h => h) rfl fun K hK => ?_; clear hd; simp only [frD, qe5, qe7] at hK ⊢; go_simp
              exact hK _ _ (Below.refl _ _) rfl
            | 9, _ =>
              have qe8 : (vs 8) = .bool false := hd 8 (cm (by kernel_rfl))
              refine step_valg [(8, some 159)] (fun vΦ _ => vΦ = .agg #[.bool b3, .slice A3 n3 c3, .bool d3, .slice B3 m3 e3]) rfl (by kernel_rfl) (fun _ _ h => h) rfl (wanted_some 159 rfl (by rfl) (by kernel_rfl) qe8) fun K hK => ?_; clear hd; simp only [frD, qe8] at hK ⊢; go_simp
              exact hK _ _ (Below.refl _ _) rfl
            | 10, _ =>
              have qe8 : (vs 8) = .bool false := hd 8 (cm (by kernel_rfl))
              refine step_valg [(8, some 159)] (fun vΦ _ => vΦ = .agg #[.bool b4, .slice A4 n4 c4, .bool d4, .slice B4 m4 e4]) rfl (by kernel_rfl) (fun _ _ h => h) rfl (wanted_some 159 rfl (by rfl) (by kernel_rfl) qe8) fun K hK => ?_; clear hd; simp only [frD, qe8] at hK ⊢; go_simp
              exact hK _ _ (Below.refl _ _) rfl
            | 11, _ =>
              have qe8 : (vs 8) = .bool false := hd 8 (cm (by kernel_rfl)); have qe9 : (vs 9) = .agg #[.bool b3, .slice A3 n3 c3, .bool d3, .slice B3 m3 e3] := hd 9 (cm (by kernel_rfl)); have qe10 : (vs 10) = .agg #[.bool b4, .slice A4 n4 c4, .bool d4, .slice B4 m4 e4] := hd 10 (cm (by kernel_rfl))
              refine step_call (F := 32) (X := .func (.func 32) #[] #[]) (A := #[(vs 9), (vs 10)]) (B := #[.agg #[.bool b3, .slice A3 n3 c3, .bool d3, .slice B3 m3 e3], .agg #[.bool b4, .slice A4 n4 c4, .bool d4, .slice B4 m4 e4]]) [(8, some 159), (9, some 160), (10, some 161)] (fun vΦ _ => vΦ = .int .i64 s3) rfl (by kernel_rfl) (fun _ _ h => h) rfl (wanted_some 159 rfl (by rfl) (by kernel_rfl) qe8) rfl rfl (by kernel_rfl) rfl (by kernel_rfl) (by rw [qe9, qe10]) Tryz.func32 (by kernel_rfl) (by kernel_rfl) ?_
              refine ((fcompare_s ((S3.li 3 rfl).num) ((S3.li 2 rfl).num) HS3.out)).mono ?_; rintro e w4 ⟨rfl, hk4⟩; exact ⟨_, rfl, hk4, rfl⟩
            | 12, _ =>
              have qe8 : (vs 8) = .bool false := hd 8 (cm (by kernel_rfl))
              refine step_valg [(8, some 159)] (fun vΦ _ => vΦ = .func (.func 29) #[] #[]) rfl (by kernel_rfl) (fun _ _ h => h) rfl (wanted_some 159 rfl (by rfl) (by kernel_rfl) qe8) fun K hK => ?_; clear hd; simp only [frD, qe8] at hK ⊢; go_simp
              exact hK _ _ (Below.refl _ _) rfl
            | 13, _ =>
              have qe8 : (vs 8) = .bool false := hd 8 (cm (by kernel_rfl))
              refine step_valg [(8, some 159)] (fun vΦ _ => vΦ = .agg #[.bool b3, .slice A3 n3 c3, .bool d3, .slice B3 m3 e3]) rfl (by kernel_rfl) (fun _ _ h => h) rfl (wanted_some 159 rfl (by rfl) (by kernel_rfl) qe8) fun K hK => ?_; clear hd; simp only [frD, qe8] at hK ⊢; go_simp
              exact hK _ _ (Below.refl _ _) rfl
            | 14, _ =>
              have qe8 : (vs 8) = .bool false := hd 8 (cm (by kernel_rfl))
              refine step_valg [(8, some 159)] (fun vΦ _ => vΦ = .agg #[.bool b5, .slice A5 n5 c5, .bool d5, .slice B5 m5 e5]) rfl (by kernel_rfl) (fun _ _ h => h) rfl (wanted_some 159 rfl (by rfl) (by kernel_rfl) qe8) fun K hK => ?_; clear hd; simp only [frD, qe8] at hK ⊢; go_simp
              exact hK _ _ (Below.refl _ _) rfl
            | 15, _ =>
              have qe8 : (vs 8) = .bool false := hd 8 (cm (by kernel_rfl)); have qe11 : (vs 11) = .int .i64 s3 := hd 11 (cm (by kernel_rfl)); have qe12 : (vs 12) = .func (.func 29) #[] #[] := hd 12 (cm (by kernel_rfl)); have qe13 : (vs 13) = .agg #[.bool b3, .slice A3 n3 c3, .bool d3, .slice B3 m3 e3] := hd 13 (cm (by kernel_rfl)); have qe14 : (vs 14) = .agg #[.bool b5, .slice A5 n5 c5, .bool d5, .slice B5 m5 e5] := hd 14 (cm (by kernel_rfl))
              refine step_call (F := 29) (X := (vs 12)) (A := #[(vs 13), (vs 14)]) (B := #[.agg #[.bool b3, .slice A3 n3 c3, .bool d3, .slice B3 m3 e3], .agg #[.bool b5, .slice A5 n5 c5, .bool d5, .slice B5 m5 e5]]) [(8, some 159), (11, some 162), (12, some 163), (13, some 164), (14, some 165)] (fun vΦ wΦ => RatRep wΦ vΦ (x + z)) rfl (by kernel_rfl) (fun _ _ h => h) rfl (wanted_some 159 rfl (by rfl) (by kernel_rfl) qe8) rfl rfl (by kernel_rfl) qe12 (by kernel_rfl) (by rw [qe13, qe14]) Tryz.func29 (by kernel_rfl) (by kernel_rfl) ?_
              refine ((fadd_num ((S3.li 3 rfl).num) ((S3.li 1 rfl).num))).mono ?_; rintro e w4 ⟨U, rfl, hr, hk4⟩; exact ⟨_, rfl, hk4, hr⟩
            | 16, _ =>
              have qe8 : (vs 8) = .bool false := hd 8 (cm (by kernel_rfl))
              refine step_valg [(8, some 159)] (fun vΦ _ => vΦ = .func (.func 29) #[] #[]) rfl (by kernel_rfl) (fun _ _ h => h) rfl (wanted_some 159 rfl (by rfl) (by kernel_rfl) qe8) fun K hK => ?_; clear hd; simp only [frD, qe8] at hK ⊢; go_simp
              exact hK _ _ (Below.refl _ _) rfl
            | 17, _ =>
              have qe8 : (vs 8) = .bool false := hd 8 (cm (by kernel_rfl))
              refine step_valg [(8, some 159)] (fun vΦ _ => vΦ = .agg #[.bool b4, .slice A4 n4 c4, .bool d4, .slice B4 m4 e4]) rfl (by kernel_rfl) (fun _ _ h => h) rfl (wanted_some 159 rfl (by rfl) (by kernel_rfl) qe8) fun K hK => ?_; clear hd; simp only [frD, qe8] at hK ⊢; go_simp
              exact hK _ _ (Below.refl _ _) rfl
            | 18, _ =>
              have qe8 : (vs 8) = .bool false := hd 8 (cm (by kernel_rfl))
              refine step_valg [(8, some 159)] (fun vΦ _ => vΦ = .agg #[.bool b5, .slice A5 n5 c5, .bool d5, .slice B5 m5 e5]) rfl (by kernel_rfl) (fun _ _ h => h) rfl (wanted_some 159 rfl (by rfl) (by kernel_rfl) qe8) fun K hK => ?_; clear hd; simp only [frD, qe8] at hK ⊢; go_simp
              exact hK _ _ (Below.refl _ _) rfl
            | 19, _ =>
              have qe8 : (vs 8) = .bool false := hd 8 (cm (by kernel_rfl)); have h15 : RatRep w3 (vs 15) (x + z) := hd 15 (cm (by kernel_rfl)); have qe16 : (vs 16) = .func (.func 29) #[] #[] := hd 16 (cm (by kernel_rfl)); have qe17 : (vs 17) = .agg #[.bool b4, .slice A4 n4 c4, .bool d4, .slice B4 m4 e4] := hd 17 (cm (by kernel_rfl)); have qe18 : (vs 18) = .agg #[.bool b5, .slice A5 n5 c5, .bool d5, .slice B5 m5 e5] := hd 18 (cm (by kernel_rfl))
              refine step_call (F := 29) (X := (vs 16)) (A := #[(vs 17), (vs 18)]) (B := #[.agg #[.bool b4, .slice A4 n4 c4, .bool d4, .slice B4 m4 e4], .agg #[.bool b5, .slice A5 n5 c5, .bool d5, .slice B5 m5 e5]]) [(8, some 159), (15, some 166), (16, some 167), (17, some 168), (18, some 169)] (fun vΦ wΦ => RatRep wΦ vΦ (y + z)) rfl (by kernel_rfl) (fun _ _ h => h) rfl (wanted_some 159 rfl (by rfl) (by kernel_rfl) qe8) rfl rfl (by kernel_rfl) qe16 (by kernel_rfl) (by rw [qe17, qe18]) Tryz.func29 (by kernel_rfl) (by kernel_rfl) ?_
              refine ((fadd_num ((S3.li 2 rfl).num) ((S3.li 1 rfl).num))).mono ?_; rintro e w4 ⟨U, rfl, hr, hk4⟩; exact ⟨_, rfl, hk4, hr⟩
            | 20, _ =>
              have qe8 : (vs 8) = .bool false := hd 8 (cm (by kernel_rfl)); have h15 : RatRep w3 (vs 15) (x + z) := hd 15 (cm (by kernel_rfl)); have h19 : RatRep w3 (vs 19) (y + z) := hd 19 (cm (by kernel_rfl))
              refine step_call (F := 32) (X := .func (.func 32) #[] #[]) (A := #[(vs 15), (vs 19)]) (B := #[(vs 15), (vs 19)]) [(8, some 159), (15, some 166), (19, some 170)] (fun vΦ _ => vΦ = .int .i64 s3) rfl (by kernel_rfl) (fun _ _ h => h) rfl (wanted_some 159 rfl (by rfl) (by kernel_rfl) qe8) rfl rfl (by kernel_rfl) rfl (by kernel_rfl) rfl Tryz.func32 (by kernel_rfl) (by kernel_rfl) ?_
              refine ((fcompare_s (h15.num (by omega)) (h19.num (by omega)) HD.out)).mono ?_; rintro e w4 ⟨rfl, hk4⟩; exact ⟨_, rfl, hk4, rfl⟩
            | i + 21, hi => exact absurd hi (by omega)
          · intro vs W12 hk3 hΦ _
            simp only [List.drop_succ_cons, List.drop_zero]
            rw [fr_frD, show (List.range 21).map _ = [(0, some 151), (1, some 152), (2, some 153), (3, some 154), (4, some 155), (5, some 156), (6, some 157), (7, some 158), (8, some 159), (9, some 160), (10, some 161), (11, some 162), (12, some 163), (13, some 164), (14, some 165), (15, some 166), (16, some 167), (17, some 168), (18, some 169), (19, some 170), (20, some 171)] by kernel_rfl]
            have pd0 : (vs 0) = .agg #[.bool b3, .slice A3 n3 c3, .bool d3, .slice B3 m3 e3] := hΦ 0 (by decide)
            have pd1 : (vs 1) = .agg #[.bool b4, .slice A4 n4 c4, .bool d4, .slice B4 m4 e4] := hΦ 1 (by decide)
            have pd2 : (vs 2) = .int .i64 s3 := hΦ 2 (by decide)
            have pd3 : (vs 3) = .agg #[.bool b4, .slice A4 n4 c4, .bool d4, .slice B4 m4 e4] := hΦ 3 (by decide)
            have pd4 : (vs 4) = .agg #[.bool b3, .slice A3 n3 c3, .bool d3, .slice B3 m3 e3] := hΦ 4 (by decide)
            have pd5 : (vs 5) = .int .i64 (-s3) := hΦ 5 (by decide)
            have pd6 : (vs 6) = .int .i64 s3 := hΦ 6 (by decide)
            have pd7 : (vs 7) = .bool false := hΦ 7 (by decide)
            have pd8 : (vs 8) = .bool false := hΦ 8 (by decide)
            have pd9 : (vs 9) = .agg #[.bool b3, .slice A3 n3 c3, .bool d3, .slice B3 m3 e3] := hΦ 9 (by decide)
            have pd10 : (vs 10) = .agg #[.bool b4, .slice A4 n4 c4, .bool d4, .slice B4 m4 e4] := hΦ 10 (by decide)
            have pd11 : (vs 11) = .int .i64 s3 := hΦ 11 (by decide)
            have pd12 : (vs 12) = .func (.func 29) #[] #[] := hΦ 12 (by decide)
            have pd13 : (vs 13) = .agg #[.bool b3, .slice A3 n3 c3, .bool d3, .slice B3 m3 e3] := hΦ 13 (by decide)
            have pd14 : (vs 14) = .agg #[.bool b5, .slice A5 n5 c5, .bool d5, .slice B5 m5 e5] := hΦ 14 (by decide)
            have pd15 : RatRep W12 (vs 15) (x + z) := hΦ 15 (by decide)
            have pd16 : (vs 16) = .func (.func 29) #[] #[] := hΦ 16 (by decide)
            have pd17 : (vs 17) = .agg #[.bool b4, .slice A4 n4 c4, .bool d4, .slice B4 m4 e4] := hΦ 17 (by decide)
            have pd18 : (vs 18) = .agg #[.bool b5, .slice A5 n5 c5, .bool d5, .slice B5 m5 e5] := hΦ 18 (by decide)
            have pd19 : RatRep W12 (vs 19) (y + z) := hΦ 19 (by decide)
            have pd20 : (vs 20) = .int .i64 s3 := hΦ 20 (by decide)
            clear hΦ
            simp only [frD, pd0, pd1, pd2, pd3, pd4, pd5, pd6, pd7, pd8, pd9, pd10, pd11, pd12, pd13, pd14, pd16, pd17, pd18, pd20]
            simp only [Act.put, List.setIfInBounds_toArray, List.set_cons_zero, List.set_cons_succ]
            clear pd0 pd1 pd2 pd3 pd4 pd5 pd6 pd7 pd8 pd9 pd10 pd11 pd12 pd13 pd14 pd16 pd17 pd18 pd20
            generalize vs 15 = Upd15 at pd15 ⊢
            generalize vs 19 = Upd19 at pd19 ⊢
            replace S := S.drew.below hk3
            clear pd15
            clear pd19
            clear hk3
            have r0_0 := S.c 3 0 rfl rfl
            have r0_1 := S.c 3 1 rfl rfl
            have r0_2 := S.c 3 2 rfl rfl
            have r0_3 := S.c 3 3 rfl rfl
            have r1_0 := S.c 2 0 rfl rfl
            have r1_1 := S.c 2 1 rfl rfl
            have r1_2 := S.c 2 2 rfl rfl
            have r1_3 := S.c 2 3 rfl rfl
            go_wp2_with fail
            refine ((fcompare_s ((S.li 3 rfl).num) ((S.li 2 rfl).num) HS3.out)).mono ?_
            rintro e W13 ⟨rfl, hk⟩
            replace S := S.below hk
            clear hk
            clear r0_0 r0_1 r0_2 r0_3 r1_0 r1_1 r1_2 r1_3
            rcases Bool.eq_false_or_eq_true (decide (0 < s3)) with t3 | t3
            · skip
              go_wp2
              go_ret
              first | exact ⟨rfl, S.k⟩ | exact ⟨by rw [cmp_last HS3.out HS4.out HS5.out t3 t4] <;> rfl, S.k⟩
            · skip
              have r1_0 := S.c 2 0 rfl rfl
              have r1_1 := S.c 2 1 rfl rfl
              have r1_2 := S.c 2 2 rfl rfl
              have r1_3 := S.c 2 3 rfl rfl
              have r2_0 := S.c 1 0 rfl rfl
              have r2_1 := S.c 1 1 rfl rfl
              have r2_2 := S.c 1 2 rfl rfl
              have r2_3 := S.c 1 3 rfl rfl
              go_wp2_with fail
              refine ((fcompare_s ((S.li 2 rfl).num) ((S.li 1 rfl).num) HS4.out)).mono ?_
              rintro e W14 ⟨rfl, hk⟩
              replace S := S.below hk
              clear hk
              clear r1_0 r1_1 r1_2 r1_3 r2_0 r2_1 r2_2 r2_3
              rcases Bool.eq_false_or_eq_true (decide (0 < s4)) with t4 | t4
              · skip
                go_wp2
                go_ret
                first | exact ⟨rfl, S.k⟩ | exact ⟨by rw [cmp_last HS3.out HS4.out HS5.out t3 t4] <;> rfl, S.k⟩
              · skip
                have r0_0 := S.c 3 0 rfl rfl
                have r0_1 := S.c 3 1 rfl rfl
                have r0_2 := S.c 3 2 rfl rfl
                have r0_3 := S.c 3 3 rfl rfl
                have r2_0 := S.c 1 0 rfl rfl
                have r2_1 := S.c 1 1 rfl rfl
                have r2_2 := S.c 1 2 rfl rfl
                have r2_3 := S.c 1 3 rfl rfl
                go_wp2_with fail
                refine ((fcompare_s ((S.li 3 rfl).num) ((S.li 1 rfl).num) HS5.out)).mono ?_
                rintro e W15 ⟨rfl, hk⟩
                replace S := S.below hk
                clear hk
                clear r0_0 r0_1 r0_2 r0_3 r2_0 r2_1 r2_2 r2_3
                go_wp2
                go_ret
                first | exact ⟨rfl, S.k⟩ | exact ⟨by rw [cmp_last HS3.out HS4.out HS5.out t3 t4] <;> rfl, S.k⟩
      · skip
        go_upto_region 15 with fail
        refine wp_region_steps (m := 21) rfl (by kernel_rfl) (fun iΦ vΦ wΦ => (List.getD [fun vΦ _ => vΦ = .agg #[.bool b3, .slice A3 n3 c3, .bool d3, .slice B3 m3 e3], fun vΦ _ => vΦ = .agg #[.bool b4, .slice A4 n4 c4, .bool d4, .slice B4 m4 e4], fun vΦ _ => vΦ = .int .i64 s3, fun vΦ _ => vΦ = .agg #[.bool b4, .slice A4 n4 c4, .bool d4, .slice B4 m4 e4], fun vΦ _ => vΦ = .agg #[.bool b3, .slice A3 n3 c3, .bool d3, .slice B3 m3 e3], fun vΦ _ => vΦ = .int .i64 (-s3), fun vΦ _ => vΦ = .int .i64 s3, fun vΦ _ => vΦ = .bool false, fun vΦ _ => vΦ = .bool false, fun vΦ _ => vΦ = .agg #[.bool b3, .slice A3 n3 c3, .bool d3, .slice B3 m3 e3], fun vΦ _ => vΦ = .agg #[.bool b4, .slice A4 n4 c4, .bool d4, .slice B4 m4 e4], fun vΦ _ => vΦ = .int .i64 s3, fun vΦ _ => vΦ = .func (.func 29) #[] #[], fun vΦ _ => vΦ = .agg #[.bool b3, .slice A3 n3 c3, .bool d3, .slice B3 m3 e3], fun vΦ _ => vΦ = .agg #[.bool b5, .slice A5 n5 c5, .bool d5, .slice B5 m5 e5], fun vΦ wΦ => RatRep wΦ vΦ (x + z), fun vΦ _ => vΦ = .func (.func 29) #[] #[], fun vΦ _ => vΦ = .agg #[.bool b4, .slice A4 n4 c4, .bool d4, .slice B4 m4 e4], fun vΦ _ => vΦ = .agg #[.bool b5, .slice A5 n5 c5, .bool d5, .slice B5 m5 e5], fun vΦ wΦ => RatRep wΦ vΦ (y + z), fun vΦ _ => vΦ = .int .i64 s3] iΦ (fun _ _ => True)) vΦ wΦ) [] ?_ ?_ ?_
        · intro i v w w' _ h hk
          refine stabL_get ?_ i v w w' h hk
          exact stab_cons st_e (stab_cons st_e (stab_cons st_e (stab_cons st_e (stab_cons st_e (stab_cons st_e (stab_cons st_e (stab_cons st_e (stab_cons st_e (stab_cons st_e (stab_cons st_e (stab_cons st_e (stab_cons st_e (stab_cons st_e (stab_cons st_e (stab_cons st_q (stab_cons st_e (stab_cons st_e (stab_cons st_e (stab_cons st_q (stab_cons st_e stab_nil))))))))))))))))))))
        · intro i hi vs w3 hk3 hd
          have S3 := S.drew.below hk3
          have a0 := S3.c 2 0 rfl rfl
          have a1 := S3.c 2 1 rfl rfl
          have a2 := S3.c 2 2 rfl rfl
          have a3 := S3.c 2 3 rfl rfl
          have a4 := S3.c 1 0 rfl rfl
          have a5 := S3.c 1 1 rfl rfl
          have a6 := S3.c 1 2 rfl rfl
          have a7 := S3.c 1 3 rfl rfl
          have a8 := S3.c 0 0 rfl rfl
          have a9 := S3.c 0 1 rfl rfl
          have a10 := S3.c 0 2 rfl rfl
          have a11 := S3.c 0 3 rfl rfl
          match i, hi with
          | 0, _ =>
            refine step_val0 [] (fun vΦ _ => vΦ = .agg #[.bool b3, .slice A3 n3 c3, .bool d3, .slice B3 m3 e3]) rfl (by kernel_rfl) rfl (fun _ _ h => h) rfl fun K hK => ?_; clear hd; simp only [frD] at hK ⊢; go_simp
            exact hK _ _ (Below.refl _ _) rfl
          | 1, _ =>
            refine step_val0 [] (fun vΦ _ => vΦ = .agg #[.bool b4, .slice A4 n4 c4, .bool d4, .slice B4 m4 e4]) rfl (by kernel_rfl) rfl (fun _ _ h => h) rfl fun K hK => ?_; clear hd; simp only [frD] at hK ⊢; go_simp
            exact hK _ _ (Below.refl _ _) rfl
          | 2, _ =>
            have qe0 : (vs 0) = .agg #[.bool b3, .slice A3 n3 c3, .bool d3, .slice B3 m3 e3] := hd 0 (cm (by kernel_rfl)); have qe1 : (vs 1) = .agg #[.bool b4, .slice A4 n4 c4, .bool d4, .slice B4 m4 e4] := hd 1 (cm (by kernel_rfl))
            refine step_call (F := 32) (X := .func (.func 32) #[] #[]) (A := #[(vs 0), (vs 1)]) (B := #[.agg #[.bool b3, .slice A3 n3 c3, .bool d3, .slice B3 m3 e3], .agg #[.bool b4, .slice A4 n4 c4, .bool d4, .slice B4 m4 e4]]) [(0, some 151), (1, some 152)] (fun vΦ _ => vΦ = .int .i64 s3) rfl (by kernel_rfl) (fun _ _ h => h) rfl (wanted_none rfl) rfl rfl (by kernel_rfl) rfl (by kernel_rfl) (by rw [qe0, qe1]) Tryz.func32 (by kernel_rfl) (by kernel_rfl) ?_
            refine ((fcompare_s ((S3.li 2 rfl).num) ((S3.li 1 rfl).num) HS3.out)).mono ?_; rintro e w4 ⟨rfl, hk4⟩; exact ⟨_, rfl, hk4, rfl⟩
          | 3, _ =>
            refine step_val0 [] (fun vΦ _ => vΦ = .agg #[.bool b4, .slice A4 n4 c4, .bool d4, .slice B4 m4 e4]) rfl (by kernel_rfl) rfl (fun _ _ h => h) rfl fun K hK => ?_; clear hd; simp only [frD] at hK ⊢; go_simp
            exact hK _ _ (Below.refl _ _) rfl
          | 4, _ =>
            refine step_val0 [] (fun vΦ _ => vΦ = .agg #[.bool b3, .slice A3 n3 c3, .bool d3, .slice B3 m3 e3]) rfl (by kernel_rfl) rfl (fun _ _ h => h) rfl fun K hK => ?_; clear hd; simp only [frD] at hK ⊢; go_simp
            exact hK _ _ (Below.refl _ _) rfl
          | 5, _ =>
            have qe2 : (vs 2) = .int .i64 s3 := hd 2 (cm (by kernel_rfl)); have qe3 : (vs 3) = .agg #[.bool b4, .slice A4 n4 c4, .bool d4, .slice B4 m4 e4] := hd 3 (cm (by kernel_rfl)); have qe4 : (vs 4) = .agg #[.bool b3, .slice A3 n3 c3, .bool d3, .slice B3 m3 e3] := hd 4 (cm (by kernel_rfl))
            refine step_call (F := 32) (X := .func (.func 32) #[] #[]) (A := #[(vs 3), (vs 4)]) (B := #[.agg #[.bool b4, .slice A4 n4 c4, .bool d4, .slice B4 m4 e4], .agg #[.bool b3, .slice A3 n3 c3, .bool d3, .slice B3 m3 e3]]) [(2, some 153), (3, some 154), (4, some 155)] (fun vΦ _ => vΦ = .int .i64 (-s3)) rfl (by kernel_rfl) (fun _ _ h => h) rfl (wanted_none rfl) rfl rfl (by kernel_rfl) rfl (by kernel_rfl) (by rw [qe3, qe4]) Tryz.func32 (by kernel_rfl) (by kernel_rfl) ?_
            refine ((fcompare_s ((S3.li 1 rfl).num) ((S3.li 2 rfl).num) HC.out)).mono ?_; rintro e w4 ⟨rfl, hk4⟩; exact ⟨_, rfl, hk4, rfl⟩
          | 6, _ =>
            have qe5 : (vs 5) = .int .i64 (-s3) := hd 5 (cm (by kernel_rfl))
            refine step_val0 [(5, some 156)] (fun vΦ _ => vΦ = .int .i64 s3) rfl (by kernel_rfl) rfl (fun _ _ h => h) rfl fun K hK => ?_; clear hd; simp only [frD, qe5] at hK ⊢; go_simp
            exact hK _ _ (Below.refl _ _) rfl
          | 7, _ =>
            have qe2 : (vs 2) = .int .i64 s3 := hd 2 (cm (by kernel_rfl)); have qe6 : (vs 6) = .int .i64 s3 := hd 6 (cm (by kernel_rfl))
            refine step_val0 [(2, some 153), (6, some 157)] (fun vΦ _ => vΦ = .bool false) rfl (by kernel_rfl) rfl (fun _ _ h => h) rfl fun K hK => ?_; clear hd; simp only [frD, qe2, qe6] at hK ⊢; go_simp
            exact hK _ _ (Below.refl _ _) rfl
          | 8, _ =>
            have qe5 : (vs 5) = .int .i64 (-s3) := hd 5 (cm (by kernel_rfl)); have qe7 : (vs 7) = .bool false := hd 7 (cm (by kernel_rfl))
            refine step_val0 [(5, some 156), (7, some 158)] (fun vΦ _ => vΦ = .bool false) rfl (by kernel_rfl) rfl (fun _ _ h => h) rfl fun K hK => ?_; clear hd; simp only [frD, qe5, qe7] at hK ⊢; go_simp
            exact hK _ _ (Below.refl _ _) rfl
          | 9, _ =>
            have qe8 : (vs 8) = .bool false := hd 8 (cm (by kernel_rfl))
            refine step_valg [(8, some 159)] (fun vΦ _ => vΦ = .agg #[.bool b3, .slice A3 n3 c3, .bool d3, .slice B3 m3 e3]) rfl (by kernel_rfl) (fun _ _ h => h) rfl (wanted_some 159 rfl (by rfl) (by kernel_rfl) qe8) fun K hK => ?_; clear hd; simp only [frD, qe8] at hK ⊢; go_simp
            exact hK _ _ (Below.refl _ _) rfl
          | 10, _ =>
            have qe8 : (vs 8) = .bool false := hd 8 (cm (by kernel_rfl))
            refine step_valg [(8, some 159)] (fun vΦ _ => vΦ = .agg #[.bool b4, .slice A4 n4 c4, .bool d4, .slice B4 m4 e4]) rfl (by kernel_rfl) (fun _ _ h => h) rfl (wanted_some 159 rfl (by rfl) (by kernel_rfl) qe8) fun K hK => ?_; clear hd; simp only [frD, qe8] at hK ⊢; go_simp
            exact hK _ _ (Below.refl _ _) rfl
          | 11, _ =>
            have qe8 : (vs 8) = .bool false := hd 8 (cm (by kernel_rfl)); have qe9 : (vs 9) = .agg #[.bool b3, .slice A3 n3 c3, .bool d3, .slice B3 m3 e3] := hd 9 (cm (by kernel_rfl)); have qe10 : (vs 10) = .agg #[.bool b4, .slice A4 n4 c4, .bool d4, .slice B4 m4 e4] := hd 10 (cm (by kernel_rfl))
            refine step_call (F := 32) (X := .func (.func 32) #[] #[]) (A := #[(vs 9), (vs 10)]) (B := #[.agg #[.bool b3, .slice A3 n3 c3, .bool d3, .slice B3 m3 e3], .agg #[.bool b4, .slice A4 n4 c4, .bool d4, .slice B4 m4 e4]]) [(8, some 159), (9, some 160), (10, some 161)] (fun vΦ _ => vΦ = .int .i64 s3) rfl (by kernel_rfl) (fun _ _ h => h) rfl (wanted_some 159 rfl (by rfl) (by kernel_rfl) qe8) rfl rfl (by kernel_rfl) rfl (by kernel_rfl) (by rw [qe9, qe10]) Tryz.func32 (by kernel_rfl) (by kernel_rfl) ?_
            refine ((fcompare_s ((S3.li 2 rfl).num) ((S3.li 1 rfl).num) HS3.out)).mono ?_; rintro e w4 ⟨rfl, hk4⟩; exact ⟨_, rfl, hk4, rfl⟩
          | 12, _ =>
            have qe8 : (vs 8) = .bool false := hd 8 (cm (by kernel_rfl))
            refine step_valg [(8, some 159)] (fun vΦ _ => vΦ = .func (.func 29) #[] #[]) rfl (by kernel_rfl) (fun _ _ h => h) rfl (wanted_some 159 rfl (by rfl) (by kernel_rfl) qe8) fun K hK => ?_; clear hd; simp only [frD, qe8] at hK ⊢; go_simp
            exact hK _ _ (Below.refl _ _) rfl
          | 13, _ =>
            have qe8 : (vs 8) = .bool false := hd 8 (cm (by kernel_rfl))
            refine step_valg [(8, some 159)] (fun vΦ _ => vΦ = .agg #[.bool b3, .slice A3 n3 c3, .bool d3, .slice B3 m3 e3]) rfl (by kernel_rfl) (fun _ _ h => h) rfl (wanted_some 159 rfl (by rfl) (by kernel_rfl) qe8) fun K hK => ?_; clear hd; simp only [frD, qe8] at hK ⊢; go_simp
            exact hK _ _ (Below.refl _ _) rfl
          | 14, _ =>
            have qe8 : (vs 8) = .bool false := hd 8 (cm (by kernel_rfl))
            refine step_valg [(8, some 159)] (fun vΦ _ => vΦ = .agg #[.bool b5, .slice A5 n5 c5, .bool d5, .slice B5 m5 e5]) rfl (by kernel_rfl) (fun _ _ h => h) rfl (wanted_some 159 rfl (by rfl) (by kernel_rfl) qe8) fun K hK => ?_; clear hd; simp only [frD, qe8] at hK ⊢; go_simp
            exact hK _ _ (Below.refl _ _) rfl
          | 15, _ =>
            have qe8 : (vs 8) = .bool false := hd 8 (cm (by kernel_rfl)); have qe11 : (vs 11) = .int .i64 s3 := hd 11 (cm (by kernel_rfl)); have qe12 : (vs 12) = .func (.func 29) #[] #[] := hd 12 (cm (by kernel_rfl)); have qe13 : (vs 13) = .agg #[.bool b3, .slice A3 n3 c3, .bool d3, .slice B3 m3 e3] := hd 13 (cm (by kernel_rfl)); have qe14 : (vs 14) = .agg #[.bool b5, .slice A5 n5 c5, .bool d5, .slice B5 m5 e5] := hd 14 (cm (by kernel_rfl))
            refine step_call (F := 29) (X := (vs 12)) (A := #[(vs 13), (vs 14)]) (B := #[.agg #[.bool b3, .slice A3 n3 c3, .bool d3, .slice B3 m3 e3], .agg #[.bool b5, .slice A5 n5 c5, .bool d5, .slice B5 m5 e5]]) [(8, some 159), (11, some 162), (12, some 163), (13, some 164), (14, some 165)] (fun vΦ wΦ => RatRep wΦ vΦ (x + z)) rfl (by kernel_rfl) (fun _ _ h => h) rfl (wanted_some 159 rfl (by rfl) (by kernel_rfl) qe8) rfl rfl (by kernel_rfl) qe12 (by kernel_rfl) (by rw [qe13, qe14]) Tryz.func29 (by kernel_rfl) (by kernel_rfl) ?_
            refine ((fadd_num ((S3.li 2 rfl).num) ((S3.li 0 rfl).num))).mono ?_; rintro e w4 ⟨U, rfl, hr, hk4⟩; exact ⟨_, rfl, hk4, hr⟩
          | 16, _ =>
            have qe8 : (vs 8) = .bool false := hd 8 (cm (by kernel_rfl))
            refine step_valg [(8, some 159)] (fun vΦ _ => vΦ = .func (.func 29) #[] #[]) rfl (by kernel_rfl) (fun _ _ h => h) rfl (wanted_some 159 rfl (by rfl) (by kernel_rfl) qe8) fun K hK => ?_; clear hd; simp only [frD, qe8] at hK ⊢; go_simp
            exact hK _ _ (Below.refl _ _) rfl
          | 17, _ =>
            have qe8 : (vs 8) = .bool false := hd 8 (cm (by kernel_rfl))
            refine step_valg [(8, some 159)] (fun vΦ _ => vΦ = .agg #[.bool b4, .slice A4 n4 c4, .bool d4, .slice B4 m4 e4]) rfl (by kernel_rfl) (fun _ _ h => h) rfl (wanted_some 159 rfl (by rfl) (by kernel_rfl) qe8) fun K hK => ?_; clear hd; simp only [frD, qe8] at hK ⊢; go_simp
            exact hK _ _ (Below.refl _ _) rfl
          | 18, _ =>
            have qe8 : (vs 8) = .bool false := hd 8 (cm (by kernel_rfl))
            refine step_valg [(8, some 159)] (fun vΦ _ => vΦ = .agg #[.bool b5, .slice A5 n5 c5, .bool d5, .slice B5 m5 e5]) rfl (by kernel_rfl) (fun _ _ h => h) rfl (wanted_some 159 rfl (by rfl) (by kernel_rfl) qe8) fun K hK => ?_; clear hd; simp only [frD, qe8] at hK ⊢; go_simp
            exact hK _ _ (Below.refl _ _) rfl
          | 19, _ =>
            have qe8 : (vs 8) = .bool false := hd 8 (cm (by kernel_rfl)); have h15 : RatRep w3 (vs 15) (x + z) := hd 15 (cm (by kernel_rfl)); have qe16 : (vs 16) = .func (.func 29) #[] #[] := hd 16 (cm (by kernel_rfl)); have qe17 : (vs 17) = .agg #[.bool b4, .slice A4 n4 c4, .bool d4, .slice B4 m4 e4] := hd 17 (cm (by kernel_rfl)); have qe18 : (vs 18) = .agg #[.bool b5, .slice A5 n5 c5, .bool d5, .slice B5 m5 e5] := hd 18 (cm (by kernel_rfl))
            refine step_call (F := 29) (X := (vs 16)) (A := #[(vs 17), (vs 18)]) (B := #[.agg #[.bool b4, .slice A4 n4 c4, .bool d4, .slice B4 m4 e4], .agg #[.bool b5, .slice A5 n5 c5, .bool d5, .slice B5 m5 e5]]) [(8, some 159), (15, some 166), (16, some 167), (17, some 168), (18, some 169)] (fun vΦ wΦ => RatRep wΦ vΦ (y + z)) rfl (by kernel_rfl) (fun _ _ h => h) rfl (wanted_some 159 rfl (by rfl) (by kernel_rfl) qe8) rfl rfl (by kernel_rfl) qe16 (by kernel_rfl) (by rw [qe17, qe18]) Tryz.func29 (by kernel_rfl) (by kernel_rfl) ?_
            refine ((fadd_num ((S3.li 1 rfl).num) ((S3.li 0 rfl).num))).mono ?_; rintro e w4 ⟨U, rfl, hr, hk4⟩; exact ⟨_, rfl, hk4, hr⟩
          | 20, _ =>
            have qe8 : (vs 8) = .bool false := hd 8 (cm (by kernel_rfl)); have h15 : RatRep w3 (vs 15) (x + z) := hd 15 (cm (by kernel_rfl)); have h19 : RatRep w3 (vs 19) (y + z) := hd 19 (cm (by kernel_rfl))
            refine step_call (F := 32) (X := .func (.func 32) #[] #[]) (A := #[(vs 15), (vs 19)]) (B := #[(vs 15), (vs 19)]) [(8, some 159), (15, some 166), (19, some 170)] (fun vΦ _ => vΦ = .int .i64 s3) rfl (by kernel_rfl) (fun _ _ h => h) rfl (wanted_some 159 rfl (by rfl) (by kernel_rfl) qe8) rfl rfl (by kernel_rfl) rfl (by kernel_rfl) rfl Tryz.func32 (by kernel_rfl) (by kernel_rfl) ?_
            refine ((fcompare_s (h15.num (by omega)) (h19.num (by omega)) HD.out)).mono ?_; rintro e w4 ⟨rfl, hk4⟩; exact ⟨_, rfl, hk4, rfl⟩
          | i + 21, hi => exact absurd hi (by omega)
        · intro vs W9 hk3 hΦ _
          simp only [List.drop_succ_cons, List.drop_zero]
          rw [fr_frD, show (List.range 21).map _ = [(0, some 151), (1, some 152), (2, some 153), (3, some 154), (4, some 155), (5, some 156), (6, some 157), (7, some 158), (8, some 159), (9, some 160), (10, some 161), (11, some 162), (12, some 163), (13, some 164), (14, some 165), (15, some 166), (16, some 167), (17, some 168), (18, some 169), (19, some 170), (20, some 171)] by kernel_rfl]
          have pc0 : (vs 0) = .agg #[.bool b3, .slice A3 n3 c3, .bool d3, .slice B3 m3 e3] := hΦ 0 (by decide)
          have pc1 : (vs 1) = .agg #[.bool b4, .slice A4 n4 c4, .bool d4, .slice B4 m4 e4] := hΦ 1 (by decide)
          have pc2 : (vs 2) = .int .i64 s3 := hΦ 2 (by decide)
          have pc3 : (vs 3) = .agg #[.bool b4, .slice A4 n4 c4, .bool d4, .slice B4 m4 e4] := hΦ 3 (by decide)
          have pc4 : (vs 4) = .agg #[.bool b3, .slice A3 n3 c3, .bool d3, .slice B3 m3 e3] := hΦ 4 (by decide)
          have pc5 : (vs 5) = .int .i64 (-s3) := hΦ 5 (by decide)
          have pc6 : (vs 6) = .int .i64 s3 := hΦ 6 (by decide)
          have pc7 : (vs 7) = .bool false := hΦ 7 (by decide)
          have pc8 : (vs 8) = .bool false := hΦ 8 (by decide)
          have pc9 : (vs 9) = .agg #[.bool b3, .slice A3 n3 c3, .bool d3, .slice B3 m3 e3] := hΦ 9 (by decide)
          have pc10 : (vs 10) = .agg #[.bool b4, .slice A4 n4 c4, .bool d4, .slice B4 m4 e4] := hΦ 10 (by decide)
          have pc11 : (vs 11) = .int .i64 s3 := hΦ 11 (by decide)
          have pc12 : (vs 12) = .func (.func 29) #[] #[] := hΦ 12 (by decide)
          have pc13 : (vs 13) = .agg #[.bool b3, .slice A3 n3 c3, .bool d3, .slice B3 m3 e3] := hΦ 13 (by decide)
          have pc14 : (vs 14) = .agg #[.bool b5, .slice A5 n5 c5, .bool d5, .slice B5 m5 e5] := hΦ 14 (by decide)
          have pc15 : RatRep W9 (vs 15) (x + z) := hΦ 15 (by decide)
          have pc16 : (vs 16) = .func (.func 29) #[] #[] := hΦ 16 (by decide)
          have pc17 : (vs 17) = .agg #[.bool b4, .slice A4 n4 c4, .bool d4, .slice B4 m4 e4] := hΦ 17 (by decide)
          have pc18 : (vs 18) = .agg #[.bool b5, .slice A5 n5 c5, .bool d5, .slice B5 m5 e5] := hΦ 18 (by decide)
          have pc19 : RatRep W9 (vs 19) (y + z) := hΦ 19 (by decide)
          have pc20 : (vs 20) = .int .i64 s3 := hΦ 20 (by decide)
          clear hΦ
          simp only [frD, pc0, pc1, pc2, pc3, pc4, pc5, pc6, pc7, pc8, pc9, pc10, pc11, pc12, pc13, pc14, pc16, pc17, pc18, pc20]
          simp only [Act.put, List.setIfInBounds_toArray, List.set_cons_zero, List.set_cons_succ]
          clear pc0 pc1 pc2 pc3 pc4 pc5 pc6 pc7 pc8 pc9 pc10 pc11 pc12 pc13 pc14 pc16 pc17 pc18 pc20
          generalize vs 15 = Upc15 at pc15 ⊢
          generalize vs 19 = Upc19 at pc19 ⊢
          replace S := S.drew.below hk3
          clear pc15
          clear pc19
          clear hk3
          have r0_0 := S.c 2 0 rfl rfl
          have r0_1 := S.c 2 1 rfl rfl
          have r0_2 := S.c 2 2 rfl rfl
          have r0_3 := S.c 2 3 rfl rfl
          have r1_0 := S.c 1 0 rfl rfl
          have r1_1 := S.c 1 1 rfl rfl
          have r1_2 := S.c 1 2 rfl rfl
          have r1_3 := S.c 1 3 rfl rfl
          go_wp2_with fail
          refine ((fcompare_s ((S.li 2 rfl).num) ((S.li 1 rfl).num) HS3.out)).mono ?_
          rintro e W10 ⟨rfl, hk⟩
          replace S := S.below hk
          clear hk
          clear r0_0 r0_1 r0_2 r0_3 r1_0 r1_1 r1_2 r1_3
          rcases Bool.eq_false_or_eq_true (decide (0 < s3)) with t3 | t3
          · skip
            go_wp2
            go_ret
            first | exact ⟨rfl, S.k⟩ | exact ⟨by rw [cmp_last HS3.out HS4.out HS5.out t3 t4] <;> rfl, S.k⟩
          · skip
            have r1_0 := S.c 1 0 rfl rfl
            have r1_1 := S.c 1 1 rfl rfl
            have r1_2 := S.c 1 2 rfl rfl
            have r1_3 := S.c 1 3 rfl rfl
            have r2_0 := S.c 0 0 rfl rfl
            have r2_1 := S.c 0 1 rfl rfl
            have r2_2 := S.c 0 2 rfl rfl
            have r2_3 := S.c 0 3 rfl rfl
            go_wp2_with fail
            refine ((fcompare_s ((S.li 1 rfl).num) ((S.li 0 rfl).num) HS4.out)).mono ?_
            rintro e W11 ⟨rfl, hk⟩
            replace S := S.below hk
            clear hk
            clear r1_0 r1_1 r1_2 r1_3 r2_0 r2_1 r2_2 r2_3
            rcases Bool.eq_false_or_eq_true (decide (0 < s4)) with t4 | t4
            · skip
              go_wp2
              go_ret
              first | exact ⟨rfl, S.k⟩ | exact ⟨by rw [cmp_last HS3.out HS4.out HS5.out t3 t4] <;> rfl, S.k⟩
            · skip
              have r0_0 := S.c 2 0 rfl rfl
              have r0_1 := S.c 2 1 rfl rfl
              have r0_2 := S.c 2 2 rfl rfl
              have r0_3 := S.c 2 3 rfl rfl
              have r2_0 := S.c 0 0 rfl rfl
              have r2_1 := S.c 0 1 rfl rfl
              have r2_2 := S.c 0 2 rfl rfl
              have r2_3 := S.c 0 3 rfl rfl
              go_wp2_with fail
              refine ((fcompare_s ((S.li 2 rfl).num) ((S.li 0 rfl).num) HS5.out)).mono ?_
              rintro e W12 ⟨rfl, hk⟩
              replace S := S.below hk
              clear hk
              clear r0_0 r0_1 r0_2 r0_3 r2_0 r2_1 r2_2 r2_3
              go_wp2
              go_ret
              first | exact ⟨rfl, S.k⟩ | exact ⟨by rw [cmp_last HS3.out HS4.out HS5.out t3 t4] <;> rfl, S.k⟩
theorem field_walk {w : World} {V1 V2 V3 : Value} {x y z : Rat} {b1 b2 b3 : Bool} (h1 : RatS w V1 x b1) (h2 : RatS w V2 y b2) (h3 : RatS w V3 z b3) (ht : PowTab w) :
    Calls Tryz.prog 4 #[V1, V2, V3] w fun e w' => e = .returned (.bool true) ∧ Keeps w w' := by
  cases b1 with
  | false => exact fld_1 h1 h2 h3 ht
  | true => cases b2 with
    | false => exact fld_2 h1 h2 h3 ht
    | true => cases b3 with
      | false => exact fld_3 h1 h2 h3 ht
      | true => exact fld_4 h1 h2 h3 ht
end Go.Proofs.YtmochehkkadjnaaGreatDoor
