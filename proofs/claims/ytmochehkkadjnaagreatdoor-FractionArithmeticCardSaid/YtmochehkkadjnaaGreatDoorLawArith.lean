/- The walk of the law FractionArithmetic. -/
import Derived.Test.YtmochehkkadjnaaGreatDoorMgStab
namespace Go.Proofs.YtmochehkkadjnaaGreatDoor
open Go.RowKit Go.Shelf

set_option maxRecDepth 100000 in
set_option maxHeartbeats 1000000 in
theorem ari_1 {w : World} {V1 V2 : Value} {x y : Rat} {b2 : Bool} (h1 : RatS w V1 x false) (h2 : RatS w V2 y b2)  (ht : PowTab w) : Calls Tryz.prog 11 #[V1, V2] w (fun e w' => e = .returned (.bool true) ∧ Keeps w w') := by
  obtain ⟨b3, A3, n3, c3, d3, B3, m3, e3, rfl⟩ := h1.open_
  obtain ⟨b4, A4, n4, c4, d4, B4, m4, e4, rfl⟩ := h2.open_
  have S := (((St.start w).addL h1).addL h2)
  clear h1 h2
  go_enter Tryz.func11, Tryz.ntmps11
  go_wp2_with fail
  replace S := ((S.alloc 28 [.bool b3, .slice A3 n3 c3, .bool d3, .slice B3 m3 e3]).alloc 28 [.bool b4, .slice A4 n4 c4, .bool d4, .slice B4 m4 e4])
  simp only [World.size_alloc] at S
  obtain ⟨W1, eW, S⟩ := S.pack
  rw [eW]
  clear eW
  refine ((known_any _ (ht.keep S.k))).mono ?_
  rintro e W2 ⟨rfl, hk⟩
  replace S := S.below hk
  clear hk
  have r0_0 := S.c 1 0 rfl rfl
  have r0_1 := S.c 1 1 rfl rfl
  have r0_2 := S.c 1 2 rfl rfl
  have r0_3 := S.c 1 3 rfl rfl
  go_wp2_with fail
  refine ((lshort_b (S.li 1 rfl))).mono ?_
  rintro e W3 ⟨rfl, hk⟩
  replace S := S.below hk
  clear hk
  clear r0_0 r0_1 r0_2 r0_3
  go_wp2
  go_ret
  exact ⟨rfl, S.k⟩
set_option maxRecDepth 100000 in
set_option maxHeartbeats 1000000 in
theorem ari_2 {w : World} {V1 V2 : Value} {x y : Rat} (h1 : RatS w V1 x true) (h2 : RatS w V2 y false)  (ht : PowTab w) : Calls Tryz.prog 11 #[V1, V2] w (fun e w' => e = .returned (.bool true) ∧ Keeps w w') := by
  obtain ⟨b3, A3, n3, c3, d3, B3, m3, e3, rfl⟩ := h1.open_
  obtain ⟨b4, A4, n4, c4, d4, B4, m4, e4, rfl⟩ := h2.open_
  have S := (((St.start w).addL h1).addL h2)
  clear h1 h2
  go_enter Tryz.func11, Tryz.ntmps11
  go_wp2_with fail
  replace S := ((S.alloc 28 [.bool b3, .slice A3 n3 c3, .bool d3, .slice B3 m3 e3]).alloc 28 [.bool b4, .slice A4 n4 c4, .bool d4, .slice B4 m4 e4])
  simp only [World.size_alloc] at S
  obtain ⟨W1, eW, S⟩ := S.pack
  rw [eW]
  clear eW
  refine ((known_any _ (ht.keep S.k))).mono ?_
  rintro e W2 ⟨rfl, hk⟩
  replace S := S.below hk
  clear hk
  have r0_0 := S.c 1 0 rfl rfl
  have r0_1 := S.c 1 1 rfl rfl
  have r0_2 := S.c 1 2 rfl rfl
  have r0_3 := S.c 1 3 rfl rfl
  go_wp2_with fail
  refine ((lshort_b (S.li 1 rfl))).mono ?_
  rintro e W3 ⟨rfl, hk⟩
  replace S := S.below hk
  clear hk
  clear r0_0 r0_1 r0_2 r0_3
  have r1_0 := S.c 0 0 rfl rfl
  have r1_1 := S.c 0 1 rfl rfl
  have r1_2 := S.c 0 2 rfl rfl
  have r1_3 := S.c 0 3 rfl rfl
  go_wp2_with fail
  refine ((lshort_b (S.li 0 rfl))).mono ?_
  rintro e W4 ⟨rfl, hk⟩
  replace S := S.below hk
  clear hk
  clear r1_0 r1_1 r1_2 r1_3
  go_wp2
  go_ret
  exact ⟨rfl, S.k⟩
set_option maxRecDepth 100000 in
set_option maxHeartbeats 16000000 in
theorem ari_ok {w : World} {V1 V2 : Value} {x y : Rat} (h1 : RatS w V1 x true) (h2 : RatS w V2 y true) (ht : PowTab w) (hy : y ≠ 0) : Calls Tryz.prog 11 #[V1, V2] w (fun e w' => e = .returned (.bool true) ∧ Keeps w w') := by
  obtain ⟨b3, A3, n3, c3, d3, B3, m3, e3, rfl⟩ := h1.open_
  obtain ⟨b4, A4, n4, c4, d4, B4, m4, e4, rfl⟩ := h2.open_
  have z0 := h1.sz
  have z1 := h2.sz
  have HD := Lib.hid (show rdivC y = 0 from if_neg hy)
  clear hy
  have y0 := szR_div' x y
  have y1 := szR_add x y
  have y2 := szR_sub x y
  have y3 := szR_mul x y
  have y4 := Nat.le_of_eq (szR_neg x)
  have y5 := Nat.le_of_eq (szR_abs x)
  obtain ⟨s1, hs1⟩ : ∃ s, cmpR x y = s := ⟨_, rfl⟩
  obtain ⟨s2, hs2⟩ : ∃ s, x.num.sign = s := ⟨_, rfl⟩
  have HS1 := Lib.hid hs1
  clear hs1
  have HS2 := Lib.hid hs2
  clear hs2
  have S := (((St.start w).addL h1).addL h2)
  clear h1 h2
  go_enter Tryz.func11, Tryz.ntmps11
  go_wp2_with fail
  replace S := ((S.alloc 28 [.bool b3, .slice A3 n3 c3, .bool d3, .slice B3 m3 e3]).alloc 28 [.bool b4, .slice A4 n4 c4, .bool d4, .slice B4 m4 e4])
  simp only [World.size_alloc] at S
  obtain ⟨W1, eW, S⟩ := S.pack
  rw [eW]
  clear eW
  refine ((known_any _ (ht.keep S.k))).mono ?_
  rintro e W2 ⟨rfl, hk⟩
  replace S := S.below hk
  clear hk
  have r0_0 := S.c 1 0 rfl rfl
  have r0_1 := S.c 1 1 rfl rfl
  have r0_2 := S.c 1 2 rfl rfl
  have r0_3 := S.c 1 3 rfl rfl
  go_wp2_with fail
  refine ((lshort_b (S.li 1 rfl))).mono ?_
  rintro e W3 ⟨rfl, hk⟩
  replace S := S.below hk
  clear hk
  clear r0_0 r0_1 r0_2 r0_3
  have r1_0 := S.c 0 0 rfl rfl
  have r1_1 := S.c 0 1 rfl rfl
  have r1_2 := S.c 0 2 rfl rfl
  have r1_3 := S.c 0 3 rfl rfl
  go_wp2_with fail
  refine ((lshort_b (S.li 0 rfl))).mono ?_
  rintro e W4 ⟨rfl, hk⟩
  replace S := S.below hk
  clear hk
  clear r1_0 r1_1 r1_2 r1_3
  have r0_0 := S.c 1 0 rfl rfl
  have r0_1 := S.c 1 1 rfl rfl
  have r0_2 := S.c 1 2 rfl rfl
  have r0_3 := S.c 1 3 rfl rfl
  have r1_0 := S.c 0 0 rfl rfl
  have r1_1 := S.c 0 1 rfl rfl
  have r1_2 := S.c 0 2 rfl rfl
  have r1_3 := S.c 0 3 rfl rfl
  go_wp2_with fail
  refine ((rcode_eq (fdivide_num ((S.li 1 rfl).num) ((S.li 0 rfl).num)) HD.out rfl)).mono ?_
  rintro e W5 ⟨U5, rfl, hp, hk⟩
  rw [if_pos rfl] at hp
  obtain ⟨b5, A5, n5, c5, d5, B5, m5, e5, rfl⟩ := hp.open_
  replace S := (S.below hk).addQ hp
  clear hk hp
  clear r0_0 r0_1 r0_2 r0_3 r1_0 r1_1 r1_2 r1_3
  go_upto_region 6 with fail
  replace S := (S.alloc 28 [.bool b5, .slice A5 n5 c5, .bool d5, .slice B5 m5 e5])
  obtain ⟨W6, eW, S⟩ := S.pack
  rw [eW]
  clear eW
  generalize W5.heap.size = P1 at *
  have r0_0 := S.c 2 0 rfl rfl
  have r0_1 := S.c 2 1 rfl rfl
  have r0_2 := S.c 2 2 rfl rfl
  have r0_3 := S.c 2 3 rfl rfl
  have r1_0 := S.c 1 0 rfl rfl
  have r1_1 := S.c 1 1 rfl rfl
  have r1_2 := S.c 1 2 rfl rfl
  have r1_3 := S.c 1 3 rfl rfl
  go_wp2_with fail
  refine ((rcode_eq (gdivide_num ((S.li 2 rfl).num) ((S.li 1 rfl).num)) HD.out rfl)).mono ?_
  rintro e W7 ⟨U7, rfl, hp, hk⟩
  rw [if_pos rfl] at hp
  obtain ⟨b6, A6, n6, c6, d6, B6, m6, e6, rfl⟩ := hp.open_
  replace S := (S.below hk).addQ hp
  clear hk hp
  clear r0_0 r0_1 r0_2 r0_3 r1_0 r1_1 r1_2 r1_3
  go_upto_region 7 with fail
  replace S := (S.alloc 28 [.bool b6, .slice A6 n6 c6, .bool d6, .slice B6 m6 e6])
  obtain ⟨W8, eW, S⟩ := S.pack
  rw [eW]
  clear eW
  generalize W7.heap.size = P2 at *
  refine wp_region_steps (m := 62) rfl (by kernel_rfl) (fun iΦ vΦ wΦ => (List.getD [fun vΦ _ => vΦ = .agg #[.bool b3, .slice A3 n3 c3, .bool d3, .slice B3 m3 e3], fun vΦ _ => vΦ = .agg #[.bool b4, .slice A4 n4 c4, .bool d4, .slice B4 m4 e4], fun vΦ wΦ => RatRep wΦ vΦ (x + y), fun vΦ _ => vΦ = .agg #[.bool b3, .slice A3 n3 c3, .bool d3, .slice B3 m3 e3], fun vΦ _ => vΦ = .agg #[.bool b4, .slice A4 n4 c4, .bool d4, .slice B4 m4 e4], fun vΦ wΦ => RatRep wΦ vΦ (x + y), fun vΦ _ => vΦ = .bool true, fun vΦ _ => vΦ = .bool true, fun vΦ _ => vΦ = .agg #[.bool b3, .slice A3 n3 c3, .bool d3, .slice B3 m3 e3], fun vΦ _ => vΦ = .agg #[.bool b4, .slice A4 n4 c4, .bool d4, .slice B4 m4 e4], fun vΦ wΦ => RatRep wΦ vΦ (x - y), fun vΦ _ => vΦ = .agg #[.bool b3, .slice A3 n3 c3, .bool d3, .slice B3 m3 e3], fun vΦ _ => vΦ = .agg #[.bool b4, .slice A4 n4 c4, .bool d4, .slice B4 m4 e4], fun vΦ wΦ => RatRep wΦ vΦ (x - y), fun vΦ _ => vΦ = .bool true, fun vΦ _ => vΦ = .bool true, fun vΦ _ => vΦ = .bool true, fun vΦ _ => vΦ = .agg #[.bool b3, .slice A3 n3 c3, .bool d3, .slice B3 m3 e3], fun vΦ _ => vΦ = .agg #[.bool b4, .slice A4 n4 c4, .bool d4, .slice B4 m4 e4], fun vΦ wΦ => RatRep wΦ vΦ (x * y), fun vΦ _ => vΦ = .agg #[.bool b3, .slice A3 n3 c3, .bool d3, .slice B3 m3 e3], fun vΦ _ => vΦ = .agg #[.bool b4, .slice A4 n4 c4, .bool d4, .slice B4 m4 e4], fun vΦ wΦ => RatRep wΦ vΦ (x * y), fun vΦ _ => vΦ = .bool true, fun vΦ _ => vΦ = .bool true, fun vΦ _ => vΦ = .bool true, fun vΦ _ => vΦ = .agg #[.bool b5, .slice A5 n5 c5, .bool d5, .slice B5 m5 e5], fun vΦ _ => vΦ = .int .i64 0, fun vΦ _ => vΦ = .agg #[.bool b6, .slice A6 n6 c6, .bool d6, .slice B6 m6 e6], fun vΦ _ => vΦ = .int .i64 0, fun vΦ _ => vΦ = .bool true, fun vΦ _ => vΦ = .bool true, fun vΦ _ => vΦ = .bool true, fun vΦ _ => vΦ = .agg #[.bool b3, .slice A3 n3 c3, .bool d3, .slice B3 m3 e3], fun vΦ _ => vΦ = .agg #[.bool b4, .slice A4 n4 c4, .bool d4, .slice B4 m4 e4], fun vΦ _ => vΦ = .int .i64 s1, fun vΦ _ => vΦ = .agg #[.bool b3, .slice A3 n3 c3, .bool d3, .slice B3 m3 e3], fun vΦ _ => vΦ = .agg #[.bool b4, .slice A4 n4 c4, .bool d4, .slice B4 m4 e4], fun vΦ _ => vΦ = .int .i64 s1, fun vΦ _ => vΦ = .bool true, fun vΦ _ => vΦ = .bool true, fun vΦ _ => vΦ = .bool true, fun vΦ _ => vΦ = .agg #[.bool b3, .slice A3 n3 c3, .bool d3, .slice B3 m3 e3], fun vΦ _ => vΦ = .int .i64 s2, fun vΦ _ => vΦ = .agg #[.bool b3, .slice A3 n3 c3, .bool d3, .slice B3 m3 e3], fun vΦ _ => vΦ = .int .i64 s2, fun vΦ _ => vΦ = .bool true, fun vΦ _ => vΦ = .bool true, fun vΦ _ => vΦ = .bool true, fun vΦ _ => vΦ = .agg #[.bool b3, .slice A3 n3 c3, .bool d3, .slice B3 m3 e3], fun vΦ wΦ => RatRep wΦ vΦ (-x), fun vΦ _ => vΦ = .agg #[.bool b3, .slice A3 n3 c3, .bool d3, .slice B3 m3 e3], fun vΦ wΦ => RatRep wΦ vΦ (-x), fun vΦ _ => vΦ = .bool true, fun vΦ _ => vΦ = .bool true, fun vΦ _ => vΦ = .bool true, fun vΦ _ => vΦ = .agg #[.bool b3, .slice A3 n3 c3, .bool d3, .slice B3 m3 e3], fun vΦ wΦ => RatRep wΦ vΦ (absR x), fun vΦ _ => vΦ = .agg #[.bool b3, .slice A3 n3 c3, .bool d3, .slice B3 m3 e3], fun vΦ wΦ => RatRep wΦ vΦ (absR x), fun vΦ _ => vΦ = .bool true, fun vΦ _ => vΦ = .bool true] iΦ (fun _ _ => True)) vΦ wΦ) [] ?_ ?_ ?_
  · intro i v w w' _ h hk
    refine stabL_get ?_ i v w w' h hk
    exact stab_cons st_e (stab_cons st_e (stab_cons st_q (stab_cons st_e (stab_cons st_e (stab_cons st_q (stab_cons st_e (stab_cons st_e (stab_cons st_e (stab_cons st_e (stab_cons st_q (stab_cons st_e (stab_cons st_e (stab_cons st_q (stab_cons st_e (stab_cons st_e (stab_cons st_e (stab_cons st_e (stab_cons st_e (stab_cons st_q (stab_cons st_e (stab_cons st_e (stab_cons st_q (stab_cons st_e (stab_cons st_e (stab_cons st_e (stab_cons st_e (stab_cons st_e (stab_cons st_e (stab_cons st_e (stab_cons st_e (stab_cons st_e (stab_cons st_e (stab_cons st_e (stab_cons st_e (stab_cons st_e (stab_cons st_e (stab_cons st_e (stab_cons st_e (stab_cons st_e (stab_cons st_e (stab_cons st_e (stab_cons st_e (stab_cons st_e (stab_cons st_e (stab_cons st_e (stab_cons st_e (stab_cons st_e (stab_cons st_e (stab_cons st_e (stab_cons st_q (stab_cons st_e (stab_cons st_q (stab_cons st_e (stab_cons st_e (stab_cons st_e (stab_cons st_e (stab_cons st_q (stab_cons st_e (stab_cons st_q (stab_cons st_e (stab_cons st_e stab_nil)))))))))))))))))))))))))))))))))))))))))))))))))))))))))))))
  · intro i hi vs w3 hk3 hd
    have S3 := S.drew.below hk3
    have a0 := S3.c 3 0 rfl rfl
    have a1 := S3.c 3 1 rfl rfl
    have a2 := S3.c 3 2 rfl rfl
    have a3 := S3.c 3 3 rfl rfl
    have a4 := S3.c 2 0 rfl rfl
    have a5 := S3.c 2 1 rfl rfl
    have a6 := S3.c 2 2 rfl rfl
    have a7 := S3.c 2 3 rfl rfl
    have a8 := S3.c 1 0 rfl rfl
    have a9 := S3.c 1 1 rfl rfl
    have a10 := S3.c 1 2 rfl rfl
    have a11 := S3.c 1 3 rfl rfl
    have a12 := S3.c 0 0 rfl rfl
    have a13 := S3.c 0 1 rfl rfl
    have a14 := S3.c 0 2 rfl rfl
    have a15 := S3.c 0 3 rfl rfl
    match i, hi with
    | 0, _ =>
      refine step_val0 [] (fun vΦ _ => vΦ = .agg #[.bool b3, .slice A3 n3 c3, .bool d3, .slice B3 m3 e3]) rfl (by kernel_rfl) rfl (fun _ _ h => h) rfl fun K hK => ?_; clear hd; simp only [frD] at hK ⊢; go_simp
      exact hK _ _ (Below.refl _ _) rfl
    | 1, _ =>
      refine step_val0 [] (fun vΦ _ => vΦ = .agg #[.bool b4, .slice A4 n4 c4, .bool d4, .slice B4 m4 e4]) rfl (by kernel_rfl) rfl (fun _ _ h => h) rfl fun K hK => ?_; clear hd; simp only [frD] at hK ⊢; go_simp
      exact hK _ _ (Below.refl _ _) rfl
    | 2, _ =>
      have qe0 : (vs 0) = .agg #[.bool b3, .slice A3 n3 c3, .bool d3, .slice B3 m3 e3] := hd 0 (cm (by kernel_rfl)); have qe1 : (vs 1) = .agg #[.bool b4, .slice A4 n4 c4, .bool d4, .slice B4 m4 e4] := hd 1 (cm (by kernel_rfl))
      refine step_call (F := 29) (X := .func (.func 29) #[] #[]) (A := #[(vs 0), (vs 1)]) (B := #[.agg #[.bool b3, .slice A3 n3 c3, .bool d3, .slice B3 m3 e3], .agg #[.bool b4, .slice A4 n4 c4, .bool d4, .slice B4 m4 e4]]) [(0, some 31), (1, some 32)] (fun vΦ wΦ => RatRep wΦ vΦ (x + y)) rfl (by kernel_rfl) (fun _ _ h => h) rfl (wanted_none rfl) rfl rfl (by kernel_rfl) rfl (by kernel_rfl) (by rw [qe0, qe1]) Tryz.func29 (by kernel_rfl) (by kernel_rfl) ?_
      refine ((fadd_num ((S3.li 3 rfl).num) ((S3.li 2 rfl).num))).mono ?_; rintro e w4 ⟨U, rfl, hr, hk4⟩; exact ⟨_, rfl, hk4, hr⟩
    | 3, _ =>
      refine step_val0 [] (fun vΦ _ => vΦ = .agg #[.bool b3, .slice A3 n3 c3, .bool d3, .slice B3 m3 e3]) rfl (by kernel_rfl) rfl (fun _ _ h => h) rfl fun K hK => ?_; clear hd; simp only [frD] at hK ⊢; go_simp
      exact hK _ _ (Below.refl _ _) rfl
    | 4, _ =>
      refine step_val0 [] (fun vΦ _ => vΦ = .agg #[.bool b4, .slice A4 n4 c4, .bool d4, .slice B4 m4 e4]) rfl (by kernel_rfl) rfl (fun _ _ h => h) rfl fun K hK => ?_; clear hd; simp only [frD] at hK ⊢; go_simp
      exact hK _ _ (Below.refl _ _) rfl
    | 5, _ =>
      have h2 : RatRep w3 (vs 2) (x + y) := hd 2 (cm (by kernel_rfl)); have qe3 : (vs 3) = .agg #[.bool b3, .slice A3 n3 c3, .bool d3, .slice B3 m3 e3] := hd 3 (cm (by kernel_rfl)); have qe4 : (vs 4) = .agg #[.bool b4, .slice A4 n4 c4, .bool d4, .slice B4 m4 e4] := hd 4 (cm (by kernel_rfl))
      refine step_call (F := 59) (X := .func (.func 59) #[] #[]) (A := #[(vs 3), (vs 4)]) (B := #[.agg #[.bool b3, .slice A3 n3 c3, .bool d3, .slice B3 m3 e3], .agg #[.bool b4, .slice A4 n4 c4, .bool d4, .slice B4 m4 e4]]) [(2, some 33), (3, some 34), (4, some 35)] (fun vΦ wΦ => RatRep wΦ vΦ (x + y)) rfl (by kernel_rfl) (fun _ _ h => h) rfl (wanted_none rfl) rfl rfl (by kernel_rfl) rfl (by kernel_rfl) (by rw [qe3, qe4]) Tryz.func59 (by kernel_rfl) (by kernel_rfl) ?_
      refine ((gadd_num ((S3.li 3 rfl).num) ((S3.li 2 rfl).num))).mono ?_; rintro e w4 ⟨U, rfl, hr, hk4⟩; exact ⟨_, rfl, hk4, hr⟩
    | 6, _ =>
      have h2 : RatRep w3 (vs 2) (x + y) := hd 2 (cm (by kernel_rfl)); have h5 : RatRep w3 (vs 5) (x + y) := hd 5 (cm (by kernel_rfl))
      refine step_call (F := 21) (X := .func (.func 21) #[] #[]) (A := #[(vs 2), (vs 5)]) (B := #[(vs 2), (vs 5)]) [(2, some 33), (5, some 36)] (fun vΦ _ => vΦ = .bool true) rfl (by kernel_rfl) (fun _ _ h => h) rfl (wanted_none rfl) rfl rfl (by kernel_rfl) rfl (by kernel_rfl) rfl Tryz.func21 (by kernel_rfl) (by kernel_rfl) ?_
      refine ((gsame_s (b := true) h2 h5 (by omega) (decide_eq_true rfl))).mono ?_; rintro e w4 ⟨rfl, hk4⟩; exact ⟨_, rfl, hk4, rfl⟩
    | 7, _ =>
      have qe6 : (vs 6) = .bool true := hd 6 (cm (by kernel_rfl))
      refine step_val0 [(6, some 37)] (fun vΦ _ => vΦ = .bool true) rfl (by kernel_rfl) rfl (fun _ _ h => h) rfl fun K hK => ?_; clear hd; simp only [frD, qe6] at hK ⊢; go_simp
      exact hK _ _ (Below.refl _ _) rfl
    | 8, _ =>
      have qe7 : (vs 7) = .bool true := hd 7 (cm (by kernel_rfl))
      refine step_valg [(7, some 38)] (fun vΦ _ => vΦ = .agg #[.bool b3, .slice A3 n3 c3, .bool d3, .slice B3 m3 e3]) rfl (by kernel_rfl) (fun _ _ h => h) rfl (wanted_some 38 rfl (by rfl) (by kernel_rfl) qe7) fun K hK => ?_; clear hd; simp only [frD, qe7] at hK ⊢; go_simp
      exact hK _ _ (Below.refl _ _) rfl
    | 9, _ =>
      have qe7 : (vs 7) = .bool true := hd 7 (cm (by kernel_rfl))
      refine step_valg [(7, some 38)] (fun vΦ _ => vΦ = .agg #[.bool b4, .slice A4 n4 c4, .bool d4, .slice B4 m4 e4]) rfl (by kernel_rfl) (fun _ _ h => h) rfl (wanted_some 38 rfl (by rfl) (by kernel_rfl) qe7) fun K hK => ?_; clear hd; simp only [frD, qe7] at hK ⊢; go_simp
      exact hK _ _ (Below.refl _ _) rfl
    | 10, _ =>
      have qe7 : (vs 7) = .bool true := hd 7 (cm (by kernel_rfl)); have qe8 : (vs 8) = .agg #[.bool b3, .slice A3 n3 c3, .bool d3, .slice B3 m3 e3] := hd 8 (cm (by kernel_rfl)); have qe9 : (vs 9) = .agg #[.bool b4, .slice A4 n4 c4, .bool d4, .slice B4 m4 e4] := hd 9 (cm (by kernel_rfl))
      refine step_call (F := 35) (X := .func (.func 35) #[] #[]) (A := #[(vs 8), (vs 9)]) (B := #[.agg #[.bool b3, .slice A3 n3 c3, .bool d3, .slice B3 m3 e3], .agg #[.bool b4, .slice A4 n4 c4, .bool d4, .slice B4 m4 e4]]) [(7, some 38), (8, some 39), (9, some 40)] (fun vΦ wΦ => RatRep wΦ vΦ (x - y)) rfl (by kernel_rfl) (fun _ _ h => h) rfl (wanted_some 38 rfl (by rfl) (by kernel_rfl) qe7) rfl rfl (by kernel_rfl) rfl (by kernel_rfl) (by rw [qe8, qe9]) Tryz.func35 (by kernel_rfl) (by kernel_rfl) ?_
      refine ((fsub_num ((S3.li 3 rfl).num) ((S3.li 2 rfl).num))).mono ?_; rintro e w4 ⟨U, rfl, hr, hk4⟩; exact ⟨_, rfl, hk4, hr⟩
    | 11, _ =>
      have qe7 : (vs 7) = .bool true := hd 7 (cm (by kernel_rfl))
      refine step_valg [(7, some 38)] (fun vΦ _ => vΦ = .agg #[.bool b3, .slice A3 n3 c3, .bool d3, .slice B3 m3 e3]) rfl (by kernel_rfl) (fun _ _ h => h) rfl (wanted_some 38 rfl (by rfl) (by kernel_rfl) qe7) fun K hK => ?_; clear hd; simp only [frD, qe7] at hK ⊢; go_simp
      exact hK _ _ (Below.refl _ _) rfl
    | 12, _ =>
      have qe7 : (vs 7) = .bool true := hd 7 (cm (by kernel_rfl))
      refine step_valg [(7, some 38)] (fun vΦ _ => vΦ = .agg #[.bool b4, .slice A4 n4 c4, .bool d4, .slice B4 m4 e4]) rfl (by kernel_rfl) (fun _ _ h => h) rfl (wanted_some 38 rfl (by rfl) (by kernel_rfl) qe7) fun K hK => ?_; clear hd; simp only [frD, qe7] at hK ⊢; go_simp
      exact hK _ _ (Below.refl _ _) rfl
    | 13, _ =>
      have qe7 : (vs 7) = .bool true := hd 7 (cm (by kernel_rfl)); have h10 : RatRep w3 (vs 10) (x - y) := hd 10 (cm (by kernel_rfl)); have qe11 : (vs 11) = .agg #[.bool b3, .slice A3 n3 c3, .bool d3, .slice B3 m3 e3] := hd 11 (cm (by kernel_rfl)); have qe12 : (vs 12) = .agg #[.bool b4, .slice A4 n4 c4, .bool d4, .slice B4 m4 e4] := hd 12 (cm (by kernel_rfl))
      refine step_call (F := 60) (X := .func (.func 60) #[] #[]) (A := #[(vs 11), (vs 12)]) (B := #[.agg #[.bool b3, .slice A3 n3 c3, .bool d3, .slice B3 m3 e3], .agg #[.bool b4, .slice A4 n4 c4, .bool d4, .slice B4 m4 e4]]) [(7, some 38), (10, some 41), (11, some 42), (12, some 43)] (fun vΦ wΦ => RatRep wΦ vΦ (x - y)) rfl (by kernel_rfl) (fun _ _ h => h) rfl (wanted_some 38 rfl (by rfl) (by kernel_rfl) qe7) rfl rfl (by kernel_rfl) rfl (by kernel_rfl) (by rw [qe11, qe12]) Tryz.func60 (by kernel_rfl) (by kernel_rfl) ?_
      refine ((gsub_num ((S3.li 3 rfl).num) ((S3.li 2 rfl).num))).mono ?_; rintro e w4 ⟨U, rfl, hr, hk4⟩; exact ⟨_, rfl, hk4, hr⟩
    | 14, _ =>
      have qe7 : (vs 7) = .bool true := hd 7 (cm (by kernel_rfl)); have h10 : RatRep w3 (vs 10) (x - y) := hd 10 (cm (by kernel_rfl)); have h13 : RatRep w3 (vs 13) (x - y) := hd 13 (cm (by kernel_rfl))
      refine step_call (F := 21) (X := .func (.func 21) #[] #[]) (A := #[(vs 10), (vs 13)]) (B := #[(vs 10), (vs 13)]) [(7, some 38), (10, some 41), (13, some 44)] (fun vΦ _ => vΦ = .bool true) rfl (by kernel_rfl) (fun _ _ h => h) rfl (wanted_some 38 rfl (by rfl) (by kernel_rfl) qe7) rfl rfl (by kernel_rfl) rfl (by kernel_rfl) rfl Tryz.func21 (by kernel_rfl) (by kernel_rfl) ?_
      refine ((gsame_s (b := true) h10 h13 (by omega) (decide_eq_true rfl))).mono ?_; rintro e w4 ⟨rfl, hk4⟩; exact ⟨_, rfl, hk4, rfl⟩
    | 15, _ =>
      have qe7 : (vs 7) = .bool true := hd 7 (cm (by kernel_rfl)); have qe14 : (vs 14) = .bool true := hd 14 (cm (by kernel_rfl))
      refine step_val0 [(7, some 38), (14, some 45)] (fun vΦ _ => vΦ = .bool true) rfl (by kernel_rfl) rfl (fun _ _ h => h) rfl fun K hK => ?_; clear hd; simp only [frD, qe7, qe14] at hK ⊢; go_simp
      exact hK _ _ (Below.refl _ _) rfl
    | 16, _ =>
      have qe14 : (vs 14) = .bool true := hd 14 (cm (by kernel_rfl)); have qe15 : (vs 15) = .bool true := hd 15 (cm (by kernel_rfl))
      refine step_val0 [(14, some 45), (15, some 46)] (fun vΦ _ => vΦ = .bool true) rfl (by kernel_rfl) rfl (fun _ _ h => h) rfl fun K hK => ?_; clear hd; simp only [frD, qe14, qe15] at hK ⊢; go_simp
      exact hK _ _ (Below.refl _ _) rfl
    | 17, _ =>
      have qe16 : (vs 16) = .bool true := hd 16 (cm (by kernel_rfl))
      refine step_valg [(16, some 47)] (fun vΦ _ => vΦ = .agg #[.bool b3, .slice A3 n3 c3, .bool d3, .slice B3 m3 e3]) rfl (by kernel_rfl) (fun _ _ h => h) rfl (wanted_some 47 rfl (by rfl) (by kernel_rfl) qe16) fun K hK => ?_; clear hd; simp only [frD, qe16] at hK ⊢; go_simp
      exact hK _ _ (Below.refl _ _) rfl
    | 18, _ =>
      have qe16 : (vs 16) = .bool true := hd 16 (cm (by kernel_rfl))
      refine step_valg [(16, some 47)] (fun vΦ _ => vΦ = .agg #[.bool b4, .slice A4 n4 c4, .bool d4, .slice B4 m4 e4]) rfl (by kernel_rfl) (fun _ _ h => h) rfl (wanted_some 47 rfl (by rfl) (by kernel_rfl) qe16) fun K hK => ?_; clear hd; simp only [frD, qe16] at hK ⊢; go_simp
      exact hK _ _ (Below.refl _ _) rfl
    | 19, _ =>
      have qe16 : (vs 16) = .bool true := hd 16 (cm (by kernel_rfl)); have qe17 : (vs 17) = .agg #[.bool b3, .slice A3 n3 c3, .bool d3, .slice B3 m3 e3] := hd 17 (cm (by kernel_rfl)); have qe18 : (vs 18) = .agg #[.bool b4, .slice A4 n4 c4, .bool d4, .slice B4 m4 e4] := hd 18 (cm (by kernel_rfl))
      refine step_call (F := 30) (X := .func (.func 30) #[] #[]) (A := #[(vs 17), (vs 18)]) (B := #[.agg #[.bool b3, .slice A3 n3 c3, .bool d3, .slice B3 m3 e3], .agg #[.bool b4, .slice A4 n4 c4, .bool d4, .slice B4 m4 e4]]) [(16, some 47), (17, some 48), (18, some 49)] (fun vΦ wΦ => RatRep wΦ vΦ (x * y)) rfl (by kernel_rfl) (fun _ _ h => h) rfl (wanted_some 47 rfl (by rfl) (by kernel_rfl) qe16) rfl rfl (by kernel_rfl) rfl (by kernel_rfl) (by rw [qe17, qe18]) Tryz.func30 (by kernel_rfl) (by kernel_rfl) ?_
      refine ((fmul_num ((S3.li 3 rfl).num) ((S3.li 2 rfl).num))).mono ?_; rintro e w4 ⟨U, rfl, hr, hk4⟩; exact ⟨_, rfl, hk4, hr⟩
    | 20, _ =>
      have qe16 : (vs 16) = .bool true := hd 16 (cm (by kernel_rfl))
      refine step_valg [(16, some 47)] (fun vΦ _ => vΦ = .agg #[.bool b3, .slice A3 n3 c3, .bool d3, .slice B3 m3 e3]) rfl (by kernel_rfl) (fun _ _ h => h) rfl (wanted_some 47 rfl (by rfl) (by kernel_rfl) qe16) fun K hK => ?_; clear hd; simp only [frD, qe16] at hK ⊢; go_simp
      exact hK _ _ (Below.refl _ _) rfl
    | 21, _ =>
      have qe16 : (vs 16) = .bool true := hd 16 (cm (by kernel_rfl))
      refine step_valg [(16, some 47)] (fun vΦ _ => vΦ = .agg #[.bool b4, .slice A4 n4 c4, .bool d4, .slice B4 m4 e4]) rfl (by kernel_rfl) (fun _ _ h => h) rfl (wanted_some 47 rfl (by rfl) (by kernel_rfl) qe16) fun K hK => ?_; clear hd; simp only [frD, qe16] at hK ⊢; go_simp
      exact hK _ _ (Below.refl _ _) rfl
    | 22, _ =>
      have qe16 : (vs 16) = .bool true := hd 16 (cm (by kernel_rfl)); have h19 : RatRep w3 (vs 19) (x * y) := hd 19 (cm (by kernel_rfl)); have qe20 : (vs 20) = .agg #[.bool b3, .slice A3 n3 c3, .bool d3, .slice B3 m3 e3] := hd 20 (cm (by kernel_rfl)); have qe21 : (vs 21) = .agg #[.bool b4, .slice A4 n4 c4, .bool d4, .slice B4 m4 e4] := hd 21 (cm (by kernel_rfl))
      refine step_call (F := 61) (X := .func (.func 61) #[] #[]) (A := #[(vs 20), (vs 21)]) (B := #[.agg #[.bool b3, .slice A3 n3 c3, .bool d3, .slice B3 m3 e3], .agg #[.bool b4, .slice A4 n4 c4, .bool d4, .slice B4 m4 e4]]) [(16, some 47), (19, some 50), (20, some 51), (21, some 52)] (fun vΦ wΦ => RatRep wΦ vΦ (x * y)) rfl (by kernel_rfl) (fun _ _ h => h) rfl (wanted_some 47 rfl (by rfl) (by kernel_rfl) qe16) rfl rfl (by kernel_rfl) rfl (by kernel_rfl) (by rw [qe20, qe21]) Tryz.func61 (by kernel_rfl) (by kernel_rfl) ?_
      refine ((gmul_num ((S3.li 3 rfl).num) ((S3.li 2 rfl).num))).mono ?_; rintro e w4 ⟨U, rfl, hr, hk4⟩; exact ⟨_, rfl, hk4, hr⟩
    | 23, _ =>
      have qe16 : (vs 16) = .bool true := hd 16 (cm (by kernel_rfl)); have h19 : RatRep w3 (vs 19) (x * y) := hd 19 (cm (by kernel_rfl)); have h22 : RatRep w3 (vs 22) (x * y) := hd 22 (cm (by kernel_rfl))
      refine step_call (F := 21) (X := .func (.func 21) #[] #[]) (A := #[(vs 19), (vs 22)]) (B := #[(vs 19), (vs 22)]) [(16, some 47), (19, some 50), (22, some 53)] (fun vΦ _ => vΦ = .bool true) rfl (by kernel_rfl) (fun _ _ h => h) rfl (wanted_some 47 rfl (by rfl) (by kernel_rfl) qe16) rfl rfl (by kernel_rfl) rfl (by kernel_rfl) rfl Tryz.func21 (by kernel_rfl) (by kernel_rfl) ?_
      refine ((gsame_s (b := true) h19 h22 (by omega) (decide_eq_true rfl))).mono ?_; rintro e w4 ⟨rfl, hk4⟩; exact ⟨_, rfl, hk4, rfl⟩
    | 24, _ =>
      have qe16 : (vs 16) = .bool true := hd 16 (cm (by kernel_rfl)); have qe23 : (vs 23) = .bool true := hd 23 (cm (by kernel_rfl))
      refine step_val0 [(16, some 47), (23, some 54)] (fun vΦ _ => vΦ = .bool true) rfl (by kernel_rfl) rfl (fun _ _ h => h) rfl fun K hK => ?_; clear hd; simp only [frD, qe16, qe23] at hK ⊢; go_simp
      exact hK _ _ (Below.refl _ _) rfl
    | 25, _ =>
      have qe23 : (vs 23) = .bool true := hd 23 (cm (by kernel_rfl)); have qe24 : (vs 24) = .bool true := hd 24 (cm (by kernel_rfl))
      refine step_val0 [(23, some 54), (24, some 55)] (fun vΦ _ => vΦ = .bool true) rfl (by kernel_rfl) rfl (fun _ _ h => h) rfl fun K hK => ?_; clear hd; simp only [frD, qe23, qe24] at hK ⊢; go_simp
      exact hK _ _ (Below.refl _ _) rfl
    | 26, _ =>
      have qe25 : (vs 25) = .bool true := hd 25 (cm (by kernel_rfl))
      refine step_valg [(25, some 56)] (fun vΦ _ => vΦ = .agg #[.bool b5, .slice A5 n5 c5, .bool d5, .slice B5 m5 e5]) rfl (by kernel_rfl) (fun _ _ h => h) rfl (wanted_some 56 rfl (by rfl) (by kernel_rfl) qe25) fun K hK => ?_; clear hd; simp only [frD, qe25] at hK ⊢; go_simp
      exact hK _ _ (Below.refl _ _) rfl
    | 27, _ =>
      have qe25 : (vs 25) = .bool true := hd 25 (cm (by kernel_rfl))
      refine step_valg [(25, some 56)] (fun vΦ _ => vΦ = .int .i64 0) rfl (by kernel_rfl) (fun _ _ h => h) rfl (wanted_some 56 rfl (by rfl) (by kernel_rfl) qe25) fun K hK => ?_; clear hd; simp only [frD, qe25] at hK ⊢; go_simp
      exact hK _ _ (Below.refl _ _) rfl
    | 28, _ =>
      have qe25 : (vs 25) = .bool true := hd 25 (cm (by kernel_rfl))
      refine step_valg [(25, some 56)] (fun vΦ _ => vΦ = .agg #[.bool b6, .slice A6 n6 c6, .bool d6, .slice B6 m6 e6]) rfl (by kernel_rfl) (fun _ _ h => h) rfl (wanted_some 56 rfl (by rfl) (by kernel_rfl) qe25) fun K hK => ?_; clear hd; simp only [frD, qe25] at hK ⊢; go_simp
      exact hK _ _ (Below.refl _ _) rfl
    | 29, _ =>
      have qe25 : (vs 25) = .bool true := hd 25 (cm (by kernel_rfl))
      refine step_valg [(25, some 56)] (fun vΦ _ => vΦ = .int .i64 0) rfl (by kernel_rfl) (fun _ _ h => h) rfl (wanted_some 56 rfl (by rfl) (by kernel_rfl) qe25) fun K hK => ?_; clear hd; simp only [frD, qe25] at hK ⊢; go_simp
      exact hK _ _ (Below.refl _ _) rfl
    | 30, _ =>
      have qe25 : (vs 25) = .bool true := hd 25 (cm (by kernel_rfl)); have qe26 : (vs 26) = .agg #[.bool b5, .slice A5 n5 c5, .bool d5, .slice B5 m5 e5] := hd 26 (cm (by kernel_rfl)); have qe27 : (vs 27) = .int .i64 0 := hd 27 (cm (by kernel_rfl)); have qe28 : (vs 28) = .agg #[.bool b6, .slice A6 n6 c6, .bool d6, .slice B6 m6 e6] := hd 28 (cm (by kernel_rfl)); have qe29 : (vs 29) = .int .i64 0 := hd 29 (cm (by kernel_rfl))
      refine step_call (F := 20) (X := .func (.func 20) #[] #[]) (A := #[(vs 26), (vs 27), (vs 28), (vs 29)]) (B := #[.agg #[.bool b5, .slice A5 n5 c5, .bool d5, .slice B5 m5 e5], .int .i64 0, .agg #[.bool b6, .slice A6 n6 c6, .bool d6, .slice B6 m6 e6], .int .i64 0]) [(25, some 56), (26, some 57), (27, some 58), (28, some 59), (29, some 60)] (fun vΦ _ => vΦ = .bool true) rfl (by kernel_rfl) (fun _ _ h => h) rfl (wanted_some 56 rfl (by rfl) (by kernel_rfl) qe25) rfl rfl (by kernel_rfl) rfl (by kernel_rfl) (by rw [qe26, qe27, qe28, qe29]) Tryz.func20 (by kernel_rfl) (by kernel_rfl) ?_
      refine ((lsame_ok (S3.qi 1 rfl) (S3.qi 0 rfl) (by omega) (decide_eq_true rfl))).mono ?_; rintro e w4 ⟨rfl, hk4⟩; exact ⟨_, rfl, hk4, rfl⟩
    | 31, _ =>
      have qe25 : (vs 25) = .bool true := hd 25 (cm (by kernel_rfl)); have qe30 : (vs 30) = .bool true := hd 30 (cm (by kernel_rfl))
      refine step_val0 [(25, some 56), (30, some 61)] (fun vΦ _ => vΦ = .bool true) rfl (by kernel_rfl) rfl (fun _ _ h => h) rfl fun K hK => ?_; clear hd; simp only [frD, qe25, qe30] at hK ⊢; go_simp
      exact hK _ _ (Below.refl _ _) rfl
    | 32, _ =>
      have qe30 : (vs 30) = .bool true := hd 30 (cm (by kernel_rfl)); have qe31 : (vs 31) = .bool true := hd 31 (cm (by kernel_rfl))
      refine step_val0 [(30, some 61), (31, some 62)] (fun vΦ _ => vΦ = .bool true) rfl (by kernel_rfl) rfl (fun _ _ h => h) rfl fun K hK => ?_; clear hd; simp only [frD, qe30, qe31] at hK ⊢; go_simp
      exact hK _ _ (Below.refl _ _) rfl
    | 33, _ =>
      have qe32 : (vs 32) = .bool true := hd 32 (cm (by kernel_rfl))
      refine step_valg [(32, some 63)] (fun vΦ _ => vΦ = .agg #[.bool b3, .slice A3 n3 c3, .bool d3, .slice B3 m3 e3]) rfl (by kernel_rfl) (fun _ _ h => h) rfl (wanted_some 63 rfl (by rfl) (by kernel_rfl) qe32) fun K hK => ?_; clear hd; simp only [frD, qe32] at hK ⊢; go_simp
      exact hK _ _ (Below.refl _ _) rfl
    | 34, _ =>
      have qe32 : (vs 32) = .bool true := hd 32 (cm (by kernel_rfl))
      refine step_valg [(32, some 63)] (fun vΦ _ => vΦ = .agg #[.bool b4, .slice A4 n4 c4, .bool d4, .slice B4 m4 e4]) rfl (by kernel_rfl) (fun _ _ h => h) rfl (wanted_some 63 rfl (by rfl) (by kernel_rfl) qe32) fun K hK => ?_; clear hd; simp only [frD, qe32] at hK ⊢; go_simp
      exact hK _ _ (Below.refl _ _) rfl
    | 35, _ =>
      have qe32 : (vs 32) = .bool true := hd 32 (cm (by kernel_rfl)); have qe33 : (vs 33) = .agg #[.bool b3, .slice A3 n3 c3, .bool d3, .slice B3 m3 e3] := hd 33 (cm (by kernel_rfl)); have qe34 : (vs 34) = .agg #[.bool b4, .slice A4 n4 c4, .bool d4, .slice B4 m4 e4] := hd 34 (cm (by kernel_rfl))
      refine step_call (F := 32) (X := .func (.func 32) #[] #[]) (A := #[(vs 33), (vs 34)]) (B := #[.agg #[.bool b3, .slice A3 n3 c3, .bool d3, .slice B3 m3 e3], .agg #[.bool b4, .slice A4 n4 c4, .bool d4, .slice B4 m4 e4]]) [(32, some 63), (33, some 64), (34, some 65)] (fun vΦ _ => vΦ = .int .i64 s1) rfl (by kernel_rfl) (fun _ _ h => h) rfl (wanted_some 63 rfl (by rfl) (by kernel_rfl) qe32) rfl rfl (by kernel_rfl) rfl (by kernel_rfl) (by rw [qe33, qe34]) Tryz.func32 (by kernel_rfl) (by kernel_rfl) ?_
      refine ((fcompare_s ((S3.li 3 rfl).num) ((S3.li 2 rfl).num) HS1.out)).mono ?_; rintro e w4 ⟨rfl, hk4⟩; exact ⟨_, rfl, hk4, rfl⟩
    | 36, _ =>
      have qe32 : (vs 32) = .bool true := hd 32 (cm (by kernel_rfl))
      refine step_valg [(32, some 63)] (fun vΦ _ => vΦ = .agg #[.bool b3, .slice A3 n3 c3, .bool d3, .slice B3 m3 e3]) rfl (by kernel_rfl) (fun _ _ h => h) rfl (wanted_some 63 rfl (by rfl) (by kernel_rfl) qe32) fun K hK => ?_; clear hd; simp only [frD, qe32] at hK ⊢; go_simp
      exact hK _ _ (Below.refl _ _) rfl
    | 37, _ =>
      have qe32 : (vs 32) = .bool true := hd 32 (cm (by kernel_rfl))
      refine step_valg [(32, some 63)] (fun vΦ _ => vΦ = .agg #[.bool b4, .slice A4 n4 c4, .bool d4, .slice B4 m4 e4]) rfl (by kernel_rfl) (fun _ _ h => h) rfl (wanted_some 63 rfl (by rfl) (by kernel_rfl) qe32) fun K hK => ?_; clear hd; simp only [frD, qe32] at hK ⊢; go_simp
      exact hK _ _ (Below.refl _ _) rfl
    | 38, _ =>
      have qe32 : (vs 32) = .bool true := hd 32 (cm (by kernel_rfl)); have qe35 : (vs 35) = .int .i64 s1 := hd 35 (cm (by kernel_rfl)); have qe36 : (vs 36) = .agg #[.bool b3, .slice A3 n3 c3, .bool d3, .slice B3 m3 e3] := hd 36 (cm (by kernel_rfl)); have qe37 : (vs 37) = .agg #[.bool b4, .slice A4 n4 c4, .bool d4, .slice B4 m4 e4] := hd 37 (cm (by kernel_rfl))
      refine step_call (F := 43) (X := .func (.func 43) #[] #[]) (A := #[(vs 36), (vs 37)]) (B := #[.agg #[.bool b3, .slice A3 n3 c3, .bool d3, .slice B3 m3 e3], .agg #[.bool b4, .slice A4 n4 c4, .bool d4, .slice B4 m4 e4]]) [(32, some 63), (35, some 66), (36, some 67), (37, some 68)] (fun vΦ _ => vΦ = .int .i64 s1) rfl (by kernel_rfl) (fun _ _ h => h) rfl (wanted_some 63 rfl (by rfl) (by kernel_rfl) qe32) rfl rfl (by kernel_rfl) rfl (by kernel_rfl) (by rw [qe36, qe37]) Tryz.func43 (by kernel_rfl) (by kernel_rfl) ?_
      refine ((gcompare_s ((S3.li 3 rfl).num) ((S3.li 2 rfl).num) (by omega) HS1.out)).mono ?_; rintro e w4 ⟨rfl, hk4⟩; exact ⟨_, rfl, hk4, rfl⟩
    | 39, _ =>
      have qe32 : (vs 32) = .bool true := hd 32 (cm (by kernel_rfl)); have qe35 : (vs 35) = .int .i64 s1 := hd 35 (cm (by kernel_rfl)); have qe38 : (vs 38) = .int .i64 s1 := hd 38 (cm (by kernel_rfl))
      refine step_valg [(32, some 63), (35, some 66), (38, some 69)] (fun vΦ _ => vΦ = .bool true) rfl (by kernel_rfl) (fun _ _ h => h) rfl (wanted_some 63 rfl (by rfl) (by kernel_rfl) qe32) fun K hK => ?_; clear hd; simp only [frD, qe32, qe35, qe38] at hK ⊢; go_simp
      exact hK _ _ (Below.refl _ _) rfl
    | 40, _ =>
      have qe32 : (vs 32) = .bool true := hd 32 (cm (by kernel_rfl)); have qe39 : (vs 39) = .bool true := hd 39 (cm (by kernel_rfl))
      refine step_val0 [(32, some 63), (39, some 70)] (fun vΦ _ => vΦ = .bool true) rfl (by kernel_rfl) rfl (fun _ _ h => h) rfl fun K hK => ?_; clear hd; simp only [frD, qe32, qe39] at hK ⊢; go_simp
      exact hK _ _ (Below.refl _ _) rfl
    | 41, _ =>
      have qe38 : (vs 38) = .int .i64 s1 := hd 38 (cm (by kernel_rfl)); have qe40 : (vs 40) = .bool true := hd 40 (cm (by kernel_rfl))
      refine step_val0 [(38, some 69), (40, some 71)] (fun vΦ _ => vΦ = .bool true) rfl (by kernel_rfl) rfl (fun _ _ h => h) rfl fun K hK => ?_; clear hd; simp only [frD, qe38, qe40] at hK ⊢; go_simp
      exact hK _ _ (Below.refl _ _) rfl
    | 42, _ =>
      have qe41 : (vs 41) = .bool true := hd 41 (cm (by kernel_rfl))
      refine step_valg [(41, some 72)] (fun vΦ _ => vΦ = .agg #[.bool b3, .slice A3 n3 c3, .bool d3, .slice B3 m3 e3]) rfl (by kernel_rfl) (fun _ _ h => h) rfl (wanted_some 72 rfl (by rfl) (by kernel_rfl) qe41) fun K hK => ?_; clear hd; simp only [frD, qe41] at hK ⊢; go_simp
      exact hK _ _ (Below.refl _ _) rfl
    | 43, _ =>
      have qe41 : (vs 41) = .bool true := hd 41 (cm (by kernel_rfl)); have qe42 : (vs 42) = .agg #[.bool b3, .slice A3 n3 c3, .bool d3, .slice B3 m3 e3] := hd 42 (cm (by kernel_rfl))
      refine step_call (F := 33) (X := .func (.func 33) #[] #[]) (A := #[(vs 42)]) (B := #[.agg #[.bool b3, .slice A3 n3 c3, .bool d3, .slice B3 m3 e3]]) [(41, some 72), (42, some 73)] (fun vΦ _ => vΦ = .int .i64 s2) rfl (by kernel_rfl) (fun _ _ h => h) rfl (wanted_some 72 rfl (by rfl) (by kernel_rfl) qe41) rfl rfl (by kernel_rfl) rfl (by kernel_rfl) (by rw [qe42]) Tryz.func33 (by kernel_rfl) (by kernel_rfl) ?_
      refine ((fsign_s ((S3.li 3 rfl).num) HS2.out)).mono ?_; rintro e w4 ⟨rfl, hk4⟩; exact ⟨_, rfl, hk4, rfl⟩
    | 44, _ =>
      have qe41 : (vs 41) = .bool true := hd 41 (cm (by kernel_rfl))
      refine step_valg [(41, some 72)] (fun vΦ _ => vΦ = .agg #[.bool b3, .slice A3 n3 c3, .bool d3, .slice B3 m3 e3]) rfl (by kernel_rfl) (fun _ _ h => h) rfl (wanted_some 72 rfl (by rfl) (by kernel_rfl) qe41) fun K hK => ?_; clear hd; simp only [frD, qe41] at hK ⊢; go_simp
      exact hK _ _ (Below.refl _ _) rfl
    | 45, _ =>
      have qe41 : (vs 41) = .bool true := hd 41 (cm (by kernel_rfl)); have qe43 : (vs 43) = .int .i64 s2 := hd 43 (cm (by kernel_rfl)); have qe44 : (vs 44) = .agg #[.bool b3, .slice A3 n3 c3, .bool d3, .slice B3 m3 e3] := hd 44 (cm (by kernel_rfl))
      refine step_call (F := 62) (X := .func (.func 62) #[] #[]) (A := #[(vs 44)]) (B := #[.agg #[.bool b3, .slice A3 n3 c3, .bool d3, .slice B3 m3 e3]]) [(41, some 72), (43, some 74), (44, some 75)] (fun vΦ _ => vΦ = .int .i64 s2) rfl (by kernel_rfl) (fun _ _ h => h) rfl (wanted_some 72 rfl (by rfl) (by kernel_rfl) qe41) rfl rfl (by kernel_rfl) rfl (by kernel_rfl) (by rw [qe44]) Tryz.func62 (by kernel_rfl) (by kernel_rfl) ?_
      refine ((gsign_s ((S3.li 3 rfl).num) HS2.out)).mono ?_; rintro e w4 ⟨rfl, hk4⟩; exact ⟨_, rfl, hk4, rfl⟩
    | 46, _ =>
      have qe41 : (vs 41) = .bool true := hd 41 (cm (by kernel_rfl)); have qe43 : (vs 43) = .int .i64 s2 := hd 43 (cm (by kernel_rfl)); have qe45 : (vs 45) = .int .i64 s2 := hd 45 (cm (by kernel_rfl))
      refine step_valg [(41, some 72), (43, some 74), (45, some 76)] (fun vΦ _ => vΦ = .bool true) rfl (by kernel_rfl) (fun _ _ h => h) rfl (wanted_some 72 rfl (by rfl) (by kernel_rfl) qe41) fun K hK => ?_; clear hd; simp only [frD, qe41, qe43, qe45] at hK ⊢; go_simp
      exact hK _ _ (Below.refl _ _) rfl
    | 47, _ =>
      have qe41 : (vs 41) = .bool true := hd 41 (cm (by kernel_rfl)); have qe46 : (vs 46) = .bool true := hd 46 (cm (by kernel_rfl))
      refine step_val0 [(41, some 72), (46, some 77)] (fun vΦ _ => vΦ = .bool true) rfl (by kernel_rfl) rfl (fun _ _ h => h) rfl fun K hK => ?_; clear hd; simp only [frD, qe41, qe46] at hK ⊢; go_simp
      exact hK _ _ (Below.refl _ _) rfl
    | 48, _ =>
      have qe45 : (vs 45) = .int .i64 s2 := hd 45 (cm (by kernel_rfl)); have qe47 : (vs 47) = .bool true := hd 47 (cm (by kernel_rfl))
      refine step_val0 [(45, some 76), (47, some 78)] (fun vΦ _ => vΦ = .bool true) rfl (by kernel_rfl) rfl (fun _ _ h => h) rfl fun K hK => ?_; clear hd; simp only [frD, qe45, qe47] at hK ⊢; go_simp
      exact hK _ _ (Below.refl _ _) rfl
    | 49, _ =>
      have qe48 : (vs 48) = .bool true := hd 48 (cm (by kernel_rfl))
      refine step_valg [(48, some 79)] (fun vΦ _ => vΦ = .agg #[.bool b3, .slice A3 n3 c3, .bool d3, .slice B3 m3 e3]) rfl (by kernel_rfl) (fun _ _ h => h) rfl (wanted_some 79 rfl (by rfl) (by kernel_rfl) qe48) fun K hK => ?_; clear hd; simp only [frD, qe48] at hK ⊢; go_simp
      exact hK _ _ (Below.refl _ _) rfl
    | 50, _ =>
      have qe48 : (vs 48) = .bool true := hd 48 (cm (by kernel_rfl)); have qe49 : (vs 49) = .agg #[.bool b3, .slice A3 n3 c3, .bool d3, .slice B3 m3 e3] := hd 49 (cm (by kernel_rfl))
      refine step_call (F := 34) (X := .func (.func 34) #[] #[]) (A := #[(vs 49)]) (B := #[.agg #[.bool b3, .slice A3 n3 c3, .bool d3, .slice B3 m3 e3]]) [(48, some 79), (49, some 80)] (fun vΦ wΦ => RatRep wΦ vΦ (-x)) rfl (by kernel_rfl) (fun _ _ h => h) rfl (wanted_some 79 rfl (by rfl) (by kernel_rfl) qe48) rfl rfl (by kernel_rfl) rfl (by kernel_rfl) (by rw [qe49]) Tryz.func34 (by kernel_rfl) (by kernel_rfl) ?_
      refine ((fneg_num ((S3.li 3 rfl).num))).mono ?_; rintro e w4 ⟨U, rfl, hr, hk4⟩; exact ⟨_, rfl, hk4, hr⟩
    | 51, _ =>
      have qe48 : (vs 48) = .bool true := hd 48 (cm (by kernel_rfl))
      refine step_valg [(48, some 79)] (fun vΦ _ => vΦ = .agg #[.bool b3, .slice A3 n3 c3, .bool d3, .slice B3 m3 e3]) rfl (by kernel_rfl) (fun _ _ h => h) rfl (wanted_some 79 rfl (by rfl) (by kernel_rfl) qe48) fun K hK => ?_; clear hd; simp only [frD, qe48] at hK ⊢; go_simp
      exact hK _ _ (Below.refl _ _) rfl
    | 52, _ =>
      have qe48 : (vs 48) = .bool true := hd 48 (cm (by kernel_rfl)); have h50 : RatRep w3 (vs 50) (-x) := hd 50 (cm (by kernel_rfl)); have qe51 : (vs 51) = .agg #[.bool b3, .slice A3 n3 c3, .bool d3, .slice B3 m3 e3] := hd 51 (cm (by kernel_rfl))
      refine step_call (F := 63) (X := .func (.func 63) #[] #[]) (A := #[(vs 51)]) (B := #[.agg #[.bool b3, .slice A3 n3 c3, .bool d3, .slice B3 m3 e3]]) [(48, some 79), (50, some 81), (51, some 82)] (fun vΦ wΦ => RatRep wΦ vΦ (-x)) rfl (by kernel_rfl) (fun _ _ h => h) rfl (wanted_some 79 rfl (by rfl) (by kernel_rfl) qe48) rfl rfl (by kernel_rfl) rfl (by kernel_rfl) (by rw [qe51]) Tryz.func63 (by kernel_rfl) (by kernel_rfl) ?_
      refine ((gneg_num ((S3.li 3 rfl).num))).mono ?_; rintro e w4 ⟨U, rfl, hr, hk4⟩; exact ⟨_, rfl, hk4, hr⟩
    | 53, _ =>
      have qe48 : (vs 48) = .bool true := hd 48 (cm (by kernel_rfl)); have h50 : RatRep w3 (vs 50) (-x) := hd 50 (cm (by kernel_rfl)); have h52 : RatRep w3 (vs 52) (-x) := hd 52 (cm (by kernel_rfl))
      refine step_call (F := 21) (X := .func (.func 21) #[] #[]) (A := #[(vs 50), (vs 52)]) (B := #[(vs 50), (vs 52)]) [(48, some 79), (50, some 81), (52, some 83)] (fun vΦ _ => vΦ = .bool true) rfl (by kernel_rfl) (fun _ _ h => h) rfl (wanted_some 79 rfl (by rfl) (by kernel_rfl) qe48) rfl rfl (by kernel_rfl) rfl (by kernel_rfl) rfl Tryz.func21 (by kernel_rfl) (by kernel_rfl) ?_
      refine ((gsame_s (b := true) h50 h52 (by omega) (decide_eq_true rfl))).mono ?_; rintro e w4 ⟨rfl, hk4⟩; exact ⟨_, rfl, hk4, rfl⟩
    | 54, _ =>
      have qe48 : (vs 48) = .bool true := hd 48 (cm (by kernel_rfl)); have qe53 : (vs 53) = .bool true := hd 53 (cm (by kernel_rfl))
      refine step_val0 [(48, some 79), (53, some 84)] (fun vΦ _ => vΦ = .bool true) rfl (by kernel_rfl) rfl (fun _ _ h => h) rfl fun K hK => ?_; clear hd; simp only [frD, qe48, qe53] at hK ⊢; go_simp
      exact hK _ _ (Below.refl _ _) rfl
    | 55, _ =>
      have qe53 : (vs 53) = .bool true := hd 53 (cm (by kernel_rfl)); have qe54 : (vs 54) = .bool true := hd 54 (cm (by kernel_rfl))
      refine step_val0 [(53, some 84), (54, some 85)] (fun vΦ _ => vΦ = .bool true) rfl (by kernel_rfl) rfl (fun _ _ h => h) rfl fun K hK => ?_; clear hd; simp only [frD, qe53, qe54] at hK ⊢; go_simp
      exact hK _ _ (Below.refl _ _) rfl
    | 56, _ =>
      have qe55 : (vs 55) = .bool true := hd 55 (cm (by kernel_rfl))
      refine step_valg [(55, some 86)] (fun vΦ _ => vΦ = .agg #[.bool b3, .slice A3 n3 c3, .bool d3, .slice B3 m3 e3]) rfl (by kernel_rfl) (fun _ _ h => h) rfl (wanted_some 86 rfl (by rfl) (by kernel_rfl) qe55) fun K hK => ?_; clear hd; simp only [frD, qe55] at hK ⊢; go_simp
      exact hK _ _ (Below.refl _ _) rfl
    | 57, _ =>
      have qe55 : (vs 55) = .bool true := hd 55 (cm (by kernel_rfl)); have qe56 : (vs 56) = .agg #[.bool b3, .slice A3 n3 c3, .bool d3, .slice B3 m3 e3] := hd 56 (cm (by kernel_rfl))
      refine step_call (F := 64) (X := .func (.func 64) #[] #[]) (A := #[(vs 56)]) (B := #[.agg #[.bool b3, .slice A3 n3 c3, .bool d3, .slice B3 m3 e3]]) [(55, some 86), (56, some 87)] (fun vΦ wΦ => RatRep wΦ vΦ (absR x)) rfl (by kernel_rfl) (fun _ _ h => h) rfl (wanted_some 86 rfl (by rfl) (by kernel_rfl) qe55) rfl rfl (by kernel_rfl) rfl (by kernel_rfl) (by rw [qe56]) Tryz.func64 (by kernel_rfl) (by kernel_rfl) ?_
      refine ((fabs_num ((S3.li 3 rfl).num))).mono ?_; rintro e w4 ⟨U, rfl, hr, hk4⟩; exact ⟨_, rfl, hk4, hr⟩
    | 58, _ =>
      have qe55 : (vs 55) = .bool true := hd 55 (cm (by kernel_rfl))
      refine step_valg [(55, some 86)] (fun vΦ _ => vΦ = .agg #[.bool b3, .slice A3 n3 c3, .bool d3, .slice B3 m3 e3]) rfl (by kernel_rfl) (fun _ _ h => h) rfl (wanted_some 86 rfl (by rfl) (by kernel_rfl) qe55) fun K hK => ?_; clear hd; simp only [frD, qe55] at hK ⊢; go_simp
      exact hK _ _ (Below.refl _ _) rfl
    | 59, _ =>
      have qe55 : (vs 55) = .bool true := hd 55 (cm (by kernel_rfl)); have h57 : RatRep w3 (vs 57) (absR x) := hd 57 (cm (by kernel_rfl)); have qe58 : (vs 58) = .agg #[.bool b3, .slice A3 n3 c3, .bool d3, .slice B3 m3 e3] := hd 58 (cm (by kernel_rfl))
      refine step_call (F := 65) (X := .func (.func 65) #[] #[]) (A := #[(vs 58)]) (B := #[.agg #[.bool b3, .slice A3 n3 c3, .bool d3, .slice B3 m3 e3]]) [(55, some 86), (57, some 88), (58, some 89)] (fun vΦ wΦ => RatRep wΦ vΦ (absR x)) rfl (by kernel_rfl) (fun _ _ h => h) rfl (wanted_some 86 rfl (by rfl) (by kernel_rfl) qe55) rfl rfl (by kernel_rfl) rfl (by kernel_rfl) (by rw [qe58]) Tryz.func65 (by kernel_rfl) (by kernel_rfl) ?_
      refine ((gabs_num ((S3.li 3 rfl).num))).mono ?_; rintro e w4 ⟨U, rfl, hr, hk4⟩; exact ⟨_, rfl, hk4, hr⟩
    | 60, _ =>
      have qe55 : (vs 55) = .bool true := hd 55 (cm (by kernel_rfl)); have h57 : RatRep w3 (vs 57) (absR x) := hd 57 (cm (by kernel_rfl)); have h59 : RatRep w3 (vs 59) (absR x) := hd 59 (cm (by kernel_rfl))
      refine step_call (F := 21) (X := .func (.func 21) #[] #[]) (A := #[(vs 57), (vs 59)]) (B := #[(vs 57), (vs 59)]) [(55, some 86), (57, some 88), (59, some 90)] (fun vΦ _ => vΦ = .bool true) rfl (by kernel_rfl) (fun _ _ h => h) rfl (wanted_some 86 rfl (by rfl) (by kernel_rfl) qe55) rfl rfl (by kernel_rfl) rfl (by kernel_rfl) rfl Tryz.func21 (by kernel_rfl) (by kernel_rfl) ?_
      refine ((gsame_s (b := true) h57 h59 (by omega) (decide_eq_true rfl))).mono ?_; rintro e w4 ⟨rfl, hk4⟩; exact ⟨_, rfl, hk4, rfl⟩
    | 61, _ =>
      have qe55 : (vs 55) = .bool true := hd 55 (cm (by kernel_rfl)); have qe60 : (vs 60) = .bool true := hd 60 (cm (by kernel_rfl))
      refine step_val0 [(55, some 86), (60, some 91)] (fun vΦ _ => vΦ = .bool true) rfl (by kernel_rfl) rfl (fun _ _ h => h) rfl fun K hK => ?_; clear hd; simp only [frD, qe55, qe60] at hK ⊢; go_simp
      exact hK _ _ (Below.refl _ _) rfl
    | i + 62, hi => exact absurd hi (by omega)
  · intro vs W9 hk3 hΦ _
    simp only [List.drop_succ_cons, List.drop_zero]
    rw [fr_frD, show (List.range 62).map _ = [(0, some 31), (1, some 32), (2, some 33), (3, some 34), (4, some 35), (5, some 36), (6, some 37), (7, some 38), (8, some 39), (9, some 40), (10, some 41), (11, some 42), (12, some 43), (13, some 44), (14, some 45), (15, some 46), (16, some 47), (17, some 48), (18, some 49), (19, some 50), (20, some 51), (21, some 52), (22, some 53), (23, some 54), (24, some 55), (25, some 56), (26, some 57), (27, some 58), (28, some 59), (29, some 60), (30, some 61), (31, some 62), (32, some 63), (33, some 64), (34, some 65), (35, some 66), (36, some 67), (37, some 68), (38, some 69), (39, some 70), (40, some 71), (41, some 72), (42, some 73), (43, some 74), (44, some 75), (45, some 76), (46, some 77), (47, some 78), (48, some 79), (49, some 80), (50, some 81), (51, some 82), (52, some 83), (53, some 84), (54, some 85), (55, some 86), (56, some 87), (57, some 88), (58, some 89), (59, some 90), (60, some 91), (61, some 92)] by kernel_rfl]
    have pa0 : (vs 0) = .agg #[.bool b3, .slice A3 n3 c3, .bool d3, .slice B3 m3 e3] := hΦ 0 (by decide)
    have pa1 : (vs 1) = .agg #[.bool b4, .slice A4 n4 c4, .bool d4, .slice B4 m4 e4] := hΦ 1 (by decide)
    have pa2 : RatRep W9 (vs 2) (x + y) := hΦ 2 (by decide)
    have pa3 : (vs 3) = .agg #[.bool b3, .slice A3 n3 c3, .bool d3, .slice B3 m3 e3] := hΦ 3 (by decide)
    have pa4 : (vs 4) = .agg #[.bool b4, .slice A4 n4 c4, .bool d4, .slice B4 m4 e4] := hΦ 4 (by decide)
    have pa5 : RatRep W9 (vs 5) (x + y) := hΦ 5 (by decide)
    have pa6 : (vs 6) = .bool true := hΦ 6 (by decide)
    have pa7 : (vs 7) = .bool true := hΦ 7 (by decide)
    have pa8 : (vs 8) = .agg #[.bool b3, .slice A3 n3 c3, .bool d3, .slice B3 m3 e3] := hΦ 8 (by decide)
    have pa9 : (vs 9) = .agg #[.bool b4, .slice A4 n4 c4, .bool d4, .slice B4 m4 e4] := hΦ 9 (by decide)
    have pa10 : RatRep W9 (vs 10) (x - y) := hΦ 10 (by decide)
    have pa11 : (vs 11) = .agg #[.bool b3, .slice A3 n3 c3, .bool d3, .slice B3 m3 e3] := hΦ 11 (by decide)
    have pa12 : (vs 12) = .agg #[.bool b4, .slice A4 n4 c4, .bool d4, .slice B4 m4 e4] := hΦ 12 (by decide)
    have pa13 : RatRep W9 (vs 13) (x - y) := hΦ 13 (by decide)
    have pa14 : (vs 14) = .bool true := hΦ 14 (by decide)
    have pa15 : (vs 15) = .bool true := hΦ 15 (by decide)
    have pa16 : (vs 16) = .bool true := hΦ 16 (by decide)
    have pa17 : (vs 17) = .agg #[.bool b3, .slice A3 n3 c3, .bool d3, .slice B3 m3 e3] := hΦ 17 (by decide)
    have pa18 : (vs 18) = .agg #[.bool b4, .slice A4 n4 c4, .bool d4, .slice B4 m4 e4] := hΦ 18 (by decide)
    have pa19 : RatRep W9 (vs 19) (x * y) := hΦ 19 (by decide)
    have pa20 : (vs 20) = .agg #[.bool b3, .slice A3 n3 c3, .bool d3, .slice B3 m3 e3] := hΦ 20 (by decide)
    have pa21 : (vs 21) = .agg #[.bool b4, .slice A4 n4 c4, .bool d4, .slice B4 m4 e4] := hΦ 21 (by decide)
    have pa22 : RatRep W9 (vs 22) (x * y) := hΦ 22 (by decide)
    have pa23 : (vs 23) = .bool true := hΦ 23 (by decide)
    have pa24 : (vs 24) = .bool true := hΦ 24 (by decide)
    have pa25 : (vs 25) = .bool true := hΦ 25 (by decide)
    have pa26 : (vs 26) = .agg #[.bool b5, .slice A5 n5 c5, .bool d5, .slice B5 m5 e5] := hΦ 26 (by decide)
    have pa27 : (vs 27) = .int .i64 0 := hΦ 27 (by decide)
    have pa28 : (vs 28) = .agg #[.bool b6, .slice A6 n6 c6, .bool d6, .slice B6 m6 e6] := hΦ 28 (by decide)
    have pa29 : (vs 29) = .int .i64 0 := hΦ 29 (by decide)
    have pa30 : (vs 30) = .bool true := hΦ 30 (by decide)
    have pa31 : (vs 31) = .bool true := hΦ 31 (by decide)
    have pa32 : (vs 32) = .bool true := hΦ 32 (by decide)
    have pa33 : (vs 33) = .agg #[.bool b3, .slice A3 n3 c3, .bool d3, .slice B3 m3 e3] := hΦ 33 (by decide)
    have pa34 : (vs 34) = .agg #[.bool b4, .slice A4 n4 c4, .bool d4, .slice B4 m4 e4] := hΦ 34 (by decide)
    have pa35 : (vs 35) = .int .i64 s1 := hΦ 35 (by decide)
    have pa36 : (vs 36) = .agg #[.bool b3, .slice A3 n3 c3, .bool d3, .slice B3 m3 e3] := hΦ 36 (by decide)
    have pa37 : (vs 37) = .agg #[.bool b4, .slice A4 n4 c4, .bool d4, .slice B4 m4 e4] := hΦ 37 (by decide)
    have pa38 : (vs 38) = .int .i64 s1 := hΦ 38 (by decide)
    have pa39 : (vs 39) = .bool true := hΦ 39 (by decide)
    have pa40 : (vs 40) = .bool true := hΦ 40 (by decide)
    have pa41 : (vs 41) = .bool true := hΦ 41 (by decide)
    have pa42 : (vs 42) = .agg #[.bool b3, .slice A3 n3 c3, .bool d3, .slice B3 m3 e3] := hΦ 42 (by decide)
    have pa43 : (vs 43) = .int .i64 s2 := hΦ 43 (by decide)
    have pa44 : (vs 44) = .agg #[.bool b3, .slice A3 n3 c3, .bool d3, .slice B3 m3 e3] := hΦ 44 (by decide)
    have pa45 : (vs 45) = .int .i64 s2 := hΦ 45 (by decide)
    have pa46 : (vs 46) = .bool true := hΦ 46 (by decide)
    have pa47 : (vs 47) = .bool true := hΦ 47 (by decide)
    have pa48 : (vs 48) = .bool true := hΦ 48 (by decide)
    have pa49 : (vs 49) = .agg #[.bool b3, .slice A3 n3 c3, .bool d3, .slice B3 m3 e3] := hΦ 49 (by decide)
    have pa50 : RatRep W9 (vs 50) (-x) := hΦ 50 (by decide)
    have pa51 : (vs 51) = .agg #[.bool b3, .slice A3 n3 c3, .bool d3, .slice B3 m3 e3] := hΦ 51 (by decide)
    have pa52 : RatRep W9 (vs 52) (-x) := hΦ 52 (by decide)
    have pa53 : (vs 53) = .bool true := hΦ 53 (by decide)
    have pa54 : (vs 54) = .bool true := hΦ 54 (by decide)
    have pa55 : (vs 55) = .bool true := hΦ 55 (by decide)
    have pa56 : (vs 56) = .agg #[.bool b3, .slice A3 n3 c3, .bool d3, .slice B3 m3 e3] := hΦ 56 (by decide)
    have pa57 : RatRep W9 (vs 57) (absR x) := hΦ 57 (by decide)
    have pa58 : (vs 58) = .agg #[.bool b3, .slice A3 n3 c3, .bool d3, .slice B3 m3 e3] := hΦ 58 (by decide)
    have pa59 : RatRep W9 (vs 59) (absR x) := hΦ 59 (by decide)
    have pa60 : (vs 60) = .bool true := hΦ 60 (by decide)
    have pa61 : (vs 61) = .bool true := hΦ 61 (by decide)
    clear hΦ
    simp only [frD, pa0, pa1, pa3, pa4, pa6, pa7, pa8, pa9, pa11, pa12, pa14, pa15, pa16, pa17, pa18, pa20, pa21, pa23, pa24, pa25, pa26, pa27, pa28, pa29, pa30, pa31, pa32, pa33, pa34, pa35, pa36, pa37, pa38, pa39, pa40, pa41, pa42, pa43, pa44, pa45, pa46, pa47, pa48, pa49, pa51, pa53, pa54, pa55, pa56, pa58, pa60, pa61]
    simp only [Act.put, List.setIfInBounds_toArray, List.set_cons_zero, List.set_cons_succ]
    clear pa0 pa1 pa3 pa4 pa6 pa7 pa8 pa9 pa11 pa12 pa14 pa15 pa16 pa17 pa18 pa20 pa21 pa23 pa24 pa25 pa26 pa27 pa28 pa29 pa30 pa31 pa32 pa33 pa34 pa35 pa36 pa37 pa38 pa39 pa40 pa41 pa42 pa43 pa44 pa45 pa46 pa47 pa48 pa49 pa51 pa53 pa54 pa55 pa56 pa58 pa60 pa61
    generalize vs 2 = Upa2 at pa2 ⊢
    generalize vs 5 = Upa5 at pa5 ⊢
    generalize vs 10 = Upa10 at pa10 ⊢
    generalize vs 13 = Upa13 at pa13 ⊢
    generalize vs 19 = Upa19 at pa19 ⊢
    generalize vs 22 = Upa22 at pa22 ⊢
    generalize vs 50 = Upa50 at pa50 ⊢
    generalize vs 52 = Upa52 at pa52 ⊢
    generalize vs 57 = Upa57 at pa57 ⊢
    generalize vs 59 = Upa59 at pa59 ⊢
    replace S := S.drew.below hk3
    clear pa2
    clear pa5
    clear pa10
    clear pa13
    clear pa19
    clear pa22
    clear pa50
    clear pa52
    clear pa57
    clear pa59
    clear hk3
    go_wp2
    go_ret
    exact ⟨rfl, S.k⟩
set_option maxRecDepth 100000 in
set_option maxHeartbeats 16000000 in
theorem ari_zero {w : World} {V1 V2 : Value} {x y : Rat} (h1 : RatS w V1 x true) (h2 : RatS w V2 y true) (ht : PowTab w) (hy : y = 0) : Calls Tryz.prog 11 #[V1, V2] w (fun e w' => e = .returned (.bool true) ∧ Keeps w w') := by
  obtain ⟨b3, A3, n3, c3, d3, B3, m3, e3, rfl⟩ := h1.open_
  obtain ⟨b4, A4, n4, c4, d4, B4, m4, e4, rfl⟩ := h2.open_
  have z0 := h1.sz
  have z1 := h2.sz
  have HD := Lib.hid (show rdivC y = 14 from if_pos hy)
  clear hy
  have y0 := szR_add x y
  have y1 := szR_sub x y
  have y2 := szR_mul x y
  have y3 := Nat.le_of_eq (szR_neg x)
  have y4 := Nat.le_of_eq (szR_abs x)
  obtain ⟨s1, hs1⟩ : ∃ s, cmpR x y = s := ⟨_, rfl⟩
  obtain ⟨s2, hs2⟩ : ∃ s, x.num.sign = s := ⟨_, rfl⟩
  have HS1 := Lib.hid hs1
  clear hs1
  have HS2 := Lib.hid hs2
  clear hs2
  have S := (((St.start w).addL h1).addL h2)
  clear h1 h2
  go_enter Tryz.func11, Tryz.ntmps11
  go_wp2_with fail
  replace S := ((S.alloc 28 [.bool b3, .slice A3 n3 c3, .bool d3, .slice B3 m3 e3]).alloc 28 [.bool b4, .slice A4 n4 c4, .bool d4, .slice B4 m4 e4])
  simp only [World.size_alloc] at S
  obtain ⟨W1, eW, S⟩ := S.pack
  rw [eW]
  clear eW
  refine ((known_any _ (ht.keep S.k))).mono ?_
  rintro e W2 ⟨rfl, hk⟩
  replace S := S.below hk
  clear hk
  have r0_0 := S.c 1 0 rfl rfl
  have r0_1 := S.c 1 1 rfl rfl
  have r0_2 := S.c 1 2 rfl rfl
  have r0_3 := S.c 1 3 rfl rfl
  go_wp2_with fail
  refine ((lshort_b (S.li 1 rfl))).mono ?_
  rintro e W3 ⟨rfl, hk⟩
  replace S := S.below hk
  clear hk
  clear r0_0 r0_1 r0_2 r0_3
  have r1_0 := S.c 0 0 rfl rfl
  have r1_1 := S.c 0 1 rfl rfl
  have r1_2 := S.c 0 2 rfl rfl
  have r1_3 := S.c 0 3 rfl rfl
  go_wp2_with fail
  refine ((lshort_b (S.li 0 rfl))).mono ?_
  rintro e W4 ⟨rfl, hk⟩
  replace S := S.below hk
  clear hk
  clear r1_0 r1_1 r1_2 r1_3
  have r0_0 := S.c 1 0 rfl rfl
  have r0_1 := S.c 1 1 rfl rfl
  have r0_2 := S.c 1 2 rfl rfl
  have r0_3 := S.c 1 3 rfl rfl
  have r1_0 := S.c 0 0 rfl rfl
  have r1_1 := S.c 0 1 rfl rfl
  have r1_2 := S.c 0 2 rfl rfl
  have r1_3 := S.c 0 3 rfl rfl
  go_wp2_with fail
  refine ((rcode_eq (fdivide_num ((S.li 1 rfl).num) ((S.li 0 rfl).num)) HD.out rfl)).mono ?_
  rintro e W5 ⟨U5, rfl, hp, hk⟩
  rw [if_neg (by decide)] at hp
  unfold zeroRat at hp
  subst hp
  replace S := S.below hk
  clear hk
  clear r0_0 r0_1 r0_2 r0_3 r1_0 r1_1 r1_2 r1_3
  go_upto_region 6 with fail
  replace S := (S.alloc 28 [.bool false, .slice none 0 0, .bool false, .slice none 0 0])
  obtain ⟨W6, eW, S⟩ := S.pack
  rw [eW]
  clear eW
  generalize W5.heap.size = P1 at *
  have r0_0 := S.c 2 0 rfl rfl
  have r0_1 := S.c 2 1 rfl rfl
  have r0_2 := S.c 2 2 rfl rfl
  have r0_3 := S.c 2 3 rfl rfl
  have r1_0 := S.c 1 0 rfl rfl
  have r1_1 := S.c 1 1 rfl rfl
  have r1_2 := S.c 1 2 rfl rfl
  have r1_3 := S.c 1 3 rfl rfl
  go_wp2_with fail
  refine ((rcode_eq (gdivide_num ((S.li 1 rfl).num) ((S.li 0 rfl).num)) HD.out rfl)).mono ?_
  rintro e W7 ⟨U7, rfl, hp, hk⟩
  rw [if_neg (by decide)] at hp
  unfold zeroRat at hp
  subst hp
  replace S := S.below hk
  clear hk
  clear r0_0 r0_1 r0_2 r0_3 r1_0 r1_1 r1_2 r1_3
  go_upto_region 7 with fail
  replace S := (S.alloc 28 [.bool false, .slice none 0 0, .bool false, .slice none 0 0])
  obtain ⟨W8, eW, S⟩ := S.pack
  rw [eW]
  clear eW
  generalize W7.heap.size = P2 at *
  refine wp_region_steps (m := 62) rfl (by kernel_rfl) (fun iΦ vΦ wΦ => (List.getD [fun vΦ _ => vΦ = .agg #[.bool b3, .slice A3 n3 c3, .bool d3, .slice B3 m3 e3], fun vΦ _ => vΦ = .agg #[.bool b4, .slice A4 n4 c4, .bool d4, .slice B4 m4 e4], fun vΦ wΦ => RatRep wΦ vΦ (x + y), fun vΦ _ => vΦ = .agg #[.bool b3, .slice A3 n3 c3, .bool d3, .slice B3 m3 e3], fun vΦ _ => vΦ = .agg #[.bool b4, .slice A4 n4 c4, .bool d4, .slice B4 m4 e4], fun vΦ wΦ => RatRep wΦ vΦ (x + y), fun vΦ _ => vΦ = .bool true, fun vΦ _ => vΦ = .bool true, fun vΦ _ => vΦ = .agg #[.bool b3, .slice A3 n3 c3, .bool d3, .slice B3 m3 e3], fun vΦ _ => vΦ = .agg #[.bool b4, .slice A4 n4 c4, .bool d4, .slice B4 m4 e4], fun vΦ wΦ => RatRep wΦ vΦ (x - y), fun vΦ _ => vΦ = .agg #[.bool b3, .slice A3 n3 c3, .bool d3, .slice B3 m3 e3], fun vΦ _ => vΦ = .agg #[.bool b4, .slice A4 n4 c4, .bool d4, .slice B4 m4 e4], fun vΦ wΦ => RatRep wΦ vΦ (x - y), fun vΦ _ => vΦ = .bool true, fun vΦ _ => vΦ = .bool true, fun vΦ _ => vΦ = .bool true, fun vΦ _ => vΦ = .agg #[.bool b3, .slice A3 n3 c3, .bool d3, .slice B3 m3 e3], fun vΦ _ => vΦ = .agg #[.bool b4, .slice A4 n4 c4, .bool d4, .slice B4 m4 e4], fun vΦ wΦ => RatRep wΦ vΦ (x * y), fun vΦ _ => vΦ = .agg #[.bool b3, .slice A3 n3 c3, .bool d3, .slice B3 m3 e3], fun vΦ _ => vΦ = .agg #[.bool b4, .slice A4 n4 c4, .bool d4, .slice B4 m4 e4], fun vΦ wΦ => RatRep wΦ vΦ (x * y), fun vΦ _ => vΦ = .bool true, fun vΦ _ => vΦ = .bool true, fun vΦ _ => vΦ = .bool true, fun vΦ _ => vΦ = .agg #[.bool false, .slice none 0 0, .bool false, .slice none 0 0], fun vΦ _ => vΦ = .int .i64 14, fun vΦ _ => vΦ = .agg #[.bool false, .slice none 0 0, .bool false, .slice none 0 0], fun vΦ _ => vΦ = .int .i64 14, fun vΦ _ => vΦ = .bool true, fun vΦ _ => vΦ = .bool true, fun vΦ _ => vΦ = .bool true, fun vΦ _ => vΦ = .agg #[.bool b3, .slice A3 n3 c3, .bool d3, .slice B3 m3 e3], fun vΦ _ => vΦ = .agg #[.bool b4, .slice A4 n4 c4, .bool d4, .slice B4 m4 e4], fun vΦ _ => vΦ = .int .i64 s1, fun vΦ _ => vΦ = .agg #[.bool b3, .slice A3 n3 c3, .bool d3, .slice B3 m3 e3], fun vΦ _ => vΦ = .agg #[.bool b4, .slice A4 n4 c4, .bool d4, .slice B4 m4 e4], fun vΦ _ => vΦ = .int .i64 s1, fun vΦ _ => vΦ = .bool true, fun vΦ _ => vΦ = .bool true, fun vΦ _ => vΦ = .bool true, fun vΦ _ => vΦ = .agg #[.bool b3, .slice A3 n3 c3, .bool d3, .slice B3 m3 e3], fun vΦ _ => vΦ = .int .i64 s2, fun vΦ _ => vΦ = .agg #[.bool b3, .slice A3 n3 c3, .bool d3, .slice B3 m3 e3], fun vΦ _ => vΦ = .int .i64 s2, fun vΦ _ => vΦ = .bool true, fun vΦ _ => vΦ = .bool true, fun vΦ _ => vΦ = .bool true, fun vΦ _ => vΦ = .agg #[.bool b3, .slice A3 n3 c3, .bool d3, .slice B3 m3 e3], fun vΦ wΦ => RatRep wΦ vΦ (-x), fun vΦ _ => vΦ = .agg #[.bool b3, .slice A3 n3 c3, .bool d3, .slice B3 m3 e3], fun vΦ wΦ => RatRep wΦ vΦ (-x), fun vΦ _ => vΦ = .bool true, fun vΦ _ => vΦ = .bool true, fun vΦ _ => vΦ = .bool true, fun vΦ _ => vΦ = .agg #[.bool b3, .slice A3 n3 c3, .bool d3, .slice B3 m3 e3], fun vΦ wΦ => RatRep wΦ vΦ (absR x), fun vΦ _ => vΦ = .agg #[.bool b3, .slice A3 n3 c3, .bool d3, .slice B3 m3 e3], fun vΦ wΦ => RatRep wΦ vΦ (absR x), fun vΦ _ => vΦ = .bool true, fun vΦ _ => vΦ = .bool true] iΦ (fun _ _ => True)) vΦ wΦ) [] ?_ ?_ ?_
  · intro i v w w' _ h hk
    refine stabL_get ?_ i v w w' h hk
    exact stab_cons st_e (stab_cons st_e (stab_cons st_q (stab_cons st_e (stab_cons st_e (stab_cons st_q (stab_cons st_e (stab_cons st_e (stab_cons st_e (stab_cons st_e (stab_cons st_q (stab_cons st_e (stab_cons st_e (stab_cons st_q (stab_cons st_e (stab_cons st_e (stab_cons st_e (stab_cons st_e (stab_cons st_e (stab_cons st_q (stab_cons st_e (stab_cons st_e (stab_cons st_q (stab_cons st_e (stab_cons st_e (stab_cons st_e (stab_cons st_e (stab_cons st_e (stab_cons st_e (stab_cons st_e (stab_cons st_e (stab_cons st_e (stab_cons st_e (stab_cons st_e (stab_cons st_e (stab_cons st_e (stab_cons st_e (stab_cons st_e (stab_cons st_e (stab_cons st_e (stab_cons st_e (stab_cons st_e (stab_cons st_e (stab_cons st_e (stab_cons st_e (stab_cons st_e (stab_cons st_e (stab_cons st_e (stab_cons st_e (stab_cons st_e (stab_cons st_q (stab_cons st_e (stab_cons st_q (stab_cons st_e (stab_cons st_e (stab_cons st_e (stab_cons st_e (stab_cons st_q (stab_cons st_e (stab_cons st_q (stab_cons st_e (stab_cons st_e stab_nil)))))))))))))))))))))))))))))))))))))))))))))))))))))))))))))
  · intro i hi vs w3 hk3 hd
    have S3 := S.drew.below hk3
    have a0 := S3.c 3 0 rfl rfl
    have a1 := S3.c 3 1 rfl rfl
    have a2 := S3.c 3 2 rfl rfl
    have a3 := S3.c 3 3 rfl rfl
    have a4 := S3.c 2 0 rfl rfl
    have a5 := S3.c 2 1 rfl rfl
    have a6 := S3.c 2 2 rfl rfl
    have a7 := S3.c 2 3 rfl rfl
    have a8 := S3.c 1 0 rfl rfl
    have a9 := S3.c 1 1 rfl rfl
    have a10 := S3.c 1 2 rfl rfl
    have a11 := S3.c 1 3 rfl rfl
    have a12 := S3.c 0 0 rfl rfl
    have a13 := S3.c 0 1 rfl rfl
    have a14 := S3.c 0 2 rfl rfl
    have a15 := S3.c 0 3 rfl rfl
    match i, hi with
    | 0, _ =>
      refine step_val0 [] (fun vΦ _ => vΦ = .agg #[.bool b3, .slice A3 n3 c3, .bool d3, .slice B3 m3 e3]) rfl (by kernel_rfl) rfl (fun _ _ h => h) rfl fun K hK => ?_; clear hd; simp only [frD] at hK ⊢; go_simp
      exact hK _ _ (Below.refl _ _) rfl
    | 1, _ =>
      refine step_val0 [] (fun vΦ _ => vΦ = .agg #[.bool b4, .slice A4 n4 c4, .bool d4, .slice B4 m4 e4]) rfl (by kernel_rfl) rfl (fun _ _ h => h) rfl fun K hK => ?_; clear hd; simp only [frD] at hK ⊢; go_simp
      exact hK _ _ (Below.refl _ _) rfl
    | 2, _ =>
      have qe0 : (vs 0) = .agg #[.bool b3, .slice A3 n3 c3, .bool d3, .slice B3 m3 e3] := hd 0 (cm (by kernel_rfl)); have qe1 : (vs 1) = .agg #[.bool b4, .slice A4 n4 c4, .bool d4, .slice B4 m4 e4] := hd 1 (cm (by kernel_rfl))
      refine step_call (F := 29) (X := .func (.func 29) #[] #[]) (A := #[(vs 0), (vs 1)]) (B := #[.agg #[.bool b3, .slice A3 n3 c3, .bool d3, .slice B3 m3 e3], .agg #[.bool b4, .slice A4 n4 c4, .bool d4, .slice B4 m4 e4]]) [(0, some 31), (1, some 32)] (fun vΦ wΦ => RatRep wΦ vΦ (x + y)) rfl (by kernel_rfl) (fun _ _ h => h) rfl (wanted_none rfl) rfl rfl (by kernel_rfl) rfl (by kernel_rfl) (by rw [qe0, qe1]) Tryz.func29 (by kernel_rfl) (by kernel_rfl) ?_
      refine ((fadd_num ((S3.li 1 rfl).num) ((S3.li 0 rfl).num))).mono ?_; rintro e w4 ⟨U, rfl, hr, hk4⟩; exact ⟨_, rfl, hk4, hr⟩
    | 3, _ =>
      refine step_val0 [] (fun vΦ _ => vΦ = .agg #[.bool b3, .slice A3 n3 c3, .bool d3, .slice B3 m3 e3]) rfl (by kernel_rfl) rfl (fun _ _ h => h) rfl fun K hK => ?_; clear hd; simp only [frD] at hK ⊢; go_simp
      exact hK _ _ (Below.refl _ _) rfl
    | 4, _ =>
      refine step_val0 [] (fun vΦ _ => vΦ = .agg #[.bool b4, .slice A4 n4 c4, .bool d4, .slice B4 m4 e4]) rfl (by kernel_rfl) rfl (fun _ _ h => h) rfl fun K hK => ?_; clear hd; simp only [frD] at hK ⊢; go_simp
      exact hK _ _ (Below.refl _ _) rfl
    | 5, _ =>
      have h2 : RatRep w3 (vs 2) (x + y) := hd 2 (cm (by kernel_rfl)); have qe3 : (vs 3) = .agg #[.bool b3, .slice A3 n3 c3, .bool d3, .slice B3 m3 e3] := hd 3 (cm (by kernel_rfl)); have qe4 : (vs 4) = .agg #[.bool b4, .slice A4 n4 c4, .bool d4, .slice B4 m4 e4] := hd 4 (cm (by kernel_rfl))
      refine step_call (F := 59) (X := .func (.func 59) #[] #[]) (A := #[(vs 3), (vs 4)]) (B := #[.agg #[.bool b3, .slice A3 n3 c3, .bool d3, .slice B3 m3 e3], .agg #[.bool b4, .slice A4 n4 c4, .bool d4, .slice B4 m4 e4]]) [(2, some 33), (3, some 34), (4, some 35)] (fun vΦ wΦ => RatRep wΦ vΦ (x + y)) rfl (by kernel_rfl) (fun _ _ h => h) rfl (wanted_none rfl) rfl rfl (by kernel_rfl) rfl (by kernel_rfl) (by rw [qe3, qe4]) Tryz.func59 (by kernel_rfl) (by kernel_rfl) ?_
      refine ((gadd_num ((S3.li 1 rfl).num) ((S3.li 0 rfl).num))).mono ?_; rintro e w4 ⟨U, rfl, hr, hk4⟩; exact ⟨_, rfl, hk4, hr⟩
    | 6, _ =>
      have h2 : RatRep w3 (vs 2) (x + y) := hd 2 (cm (by kernel_rfl)); have h5 : RatRep w3 (vs 5) (x + y) := hd 5 (cm (by kernel_rfl))
      refine step_call (F := 21) (X := .func (.func 21) #[] #[]) (A := #[(vs 2), (vs 5)]) (B := #[(vs 2), (vs 5)]) [(2, some 33), (5, some 36)] (fun vΦ _ => vΦ = .bool true) rfl (by kernel_rfl) (fun _ _ h => h) rfl (wanted_none rfl) rfl rfl (by kernel_rfl) rfl (by kernel_rfl) rfl Tryz.func21 (by kernel_rfl) (by kernel_rfl) ?_
      refine ((gsame_s (b := true) h2 h5 (by omega) (decide_eq_true rfl))).mono ?_; rintro e w4 ⟨rfl, hk4⟩; exact ⟨_, rfl, hk4, rfl⟩
    | 7, _ =>
      have qe6 : (vs 6) = .bool true := hd 6 (cm (by kernel_rfl))
      refine step_val0 [(6, some 37)] (fun vΦ _ => vΦ = .bool true) rfl (by kernel_rfl) rfl (fun _ _ h => h) rfl fun K hK => ?_; clear hd; simp only [frD, qe6] at hK ⊢; go_simp
      exact hK _ _ (Below.refl _ _) rfl
    | 8, _ =>
      have qe7 : (vs 7) = .bool true := hd 7 (cm (by kernel_rfl))
      refine step_valg [(7, some 38)] (fun vΦ _ => vΦ = .agg #[.bool b3, .slice A3 n3 c3, .bool d3, .slice B3 m3 e3]) rfl (by kernel_rfl) (fun _ _ h => h) rfl (wanted_some 38 rfl (by rfl) (by kernel_rfl) qe7) fun K hK => ?_; clear hd; simp only [frD, qe7] at hK ⊢; go_simp
      exact hK _ _ (Below.refl _ _) rfl
    | 9, _ =>
      have qe7 : (vs 7) = .bool true := hd 7 (cm (by kernel_rfl))
      refine step_valg [(7, some 38)] (fun vΦ _ => vΦ = .agg #[.bool b4, .slice A4 n4 c4, .bool d4, .slice B4 m4 e4]) rfl (by kernel_rfl) (fun _ _ h => h) rfl (wanted_some 38 rfl (by rfl) (by kernel_rfl) qe7) fun K hK => ?_; clear hd; simp only [frD, qe7] at hK ⊢; go_simp
      exact hK _ _ (Below.refl _ _) rfl
    | 10, _ =>
      have qe7 : (vs 7) = .bool true := hd 7 (cm (by kernel_rfl)); have qe8 : (vs 8) = .agg #[.bool b3, .slice A3 n3 c3, .bool d3, .slice B3 m3 e3] := hd 8 (cm (by kernel_rfl)); have qe9 : (vs 9) = .agg #[.bool b4, .slice A4 n4 c4, .bool d4, .slice B4 m4 e4] := hd 9 (cm (by kernel_rfl))
      refine step_call (F := 35) (X := .func (.func 35) #[] #[]) (A := #[(vs 8), (vs 9)]) (B := #[.agg #[.bool b3, .slice A3 n3 c3, .bool d3, .slice B3 m3 e3], .agg #[.bool b4, .slice A4 n4 c4, .bool d4, .slice B4 m4 e4]]) [(7, some 38), (8, some 39), (9, some 40)] (fun vΦ wΦ => RatRep wΦ vΦ (x - y)) rfl (by kernel_rfl) (fun _ _ h => h) rfl (wanted_some 38 rfl (by rfl) (by kernel_rfl) qe7) rfl rfl (by kernel_rfl) rfl (by kernel_rfl) (by rw [qe8, qe9]) Tryz.func35 (by kernel_rfl) (by kernel_rfl) ?_
      refine ((fsub_num ((S3.li 1 rfl).num) ((S3.li 0 rfl).num))).mono ?_; rintro e w4 ⟨U, rfl, hr, hk4⟩; exact ⟨_, rfl, hk4, hr⟩
    | 11, _ =>
      have qe7 : (vs 7) = .bool true := hd 7 (cm (by kernel_rfl))
      refine step_valg [(7, some 38)] (fun vΦ _ => vΦ = .agg #[.bool b3, .slice A3 n3 c3, .bool d3, .slice B3 m3 e3]) rfl (by kernel_rfl) (fun _ _ h => h) rfl (wanted_some 38 rfl (by rfl) (by kernel_rfl) qe7) fun K hK => ?_; clear hd; simp only [frD, qe7] at hK ⊢; go_simp
      exact hK _ _ (Below.refl _ _) rfl
    | 12, _ =>
      have qe7 : (vs 7) = .bool true := hd 7 (cm (by kernel_rfl))
      refine step_valg [(7, some 38)] (fun vΦ _ => vΦ = .agg #[.bool b4, .slice A4 n4 c4, .bool d4, .slice B4 m4 e4]) rfl (by kernel_rfl) (fun _ _ h => h) rfl (wanted_some 38 rfl (by rfl) (by kernel_rfl) qe7) fun K hK => ?_; clear hd; simp only [frD, qe7] at hK ⊢; go_simp
      exact hK _ _ (Below.refl _ _) rfl
    | 13, _ =>
      have qe7 : (vs 7) = .bool true := hd 7 (cm (by kernel_rfl)); have h10 : RatRep w3 (vs 10) (x - y) := hd 10 (cm (by kernel_rfl)); have qe11 : (vs 11) = .agg #[.bool b3, .slice A3 n3 c3, .bool d3, .slice B3 m3 e3] := hd 11 (cm (by kernel_rfl)); have qe12 : (vs 12) = .agg #[.bool b4, .slice A4 n4 c4, .bool d4, .slice B4 m4 e4] := hd 12 (cm (by kernel_rfl))
      refine step_call (F := 60) (X := .func (.func 60) #[] #[]) (A := #[(vs 11), (vs 12)]) (B := #[.agg #[.bool b3, .slice A3 n3 c3, .bool d3, .slice B3 m3 e3], .agg #[.bool b4, .slice A4 n4 c4, .bool d4, .slice B4 m4 e4]]) [(7, some 38), (10, some 41), (11, some 42), (12, some 43)] (fun vΦ wΦ => RatRep wΦ vΦ (x - y)) rfl (by kernel_rfl) (fun _ _ h => h) rfl (wanted_some 38 rfl (by rfl) (by kernel_rfl) qe7) rfl rfl (by kernel_rfl) rfl (by kernel_rfl) (by rw [qe11, qe12]) Tryz.func60 (by kernel_rfl) (by kernel_rfl) ?_
      refine ((gsub_num ((S3.li 1 rfl).num) ((S3.li 0 rfl).num))).mono ?_; rintro e w4 ⟨U, rfl, hr, hk4⟩; exact ⟨_, rfl, hk4, hr⟩
    | 14, _ =>
      have qe7 : (vs 7) = .bool true := hd 7 (cm (by kernel_rfl)); have h10 : RatRep w3 (vs 10) (x - y) := hd 10 (cm (by kernel_rfl)); have h13 : RatRep w3 (vs 13) (x - y) := hd 13 (cm (by kernel_rfl))
      refine step_call (F := 21) (X := .func (.func 21) #[] #[]) (A := #[(vs 10), (vs 13)]) (B := #[(vs 10), (vs 13)]) [(7, some 38), (10, some 41), (13, some 44)] (fun vΦ _ => vΦ = .bool true) rfl (by kernel_rfl) (fun _ _ h => h) rfl (wanted_some 38 rfl (by rfl) (by kernel_rfl) qe7) rfl rfl (by kernel_rfl) rfl (by kernel_rfl) rfl Tryz.func21 (by kernel_rfl) (by kernel_rfl) ?_
      refine ((gsame_s (b := true) h10 h13 (by omega) (decide_eq_true rfl))).mono ?_; rintro e w4 ⟨rfl, hk4⟩; exact ⟨_, rfl, hk4, rfl⟩
    | 15, _ =>
      have qe7 : (vs 7) = .bool true := hd 7 (cm (by kernel_rfl)); have qe14 : (vs 14) = .bool true := hd 14 (cm (by kernel_rfl))
      refine step_val0 [(7, some 38), (14, some 45)] (fun vΦ _ => vΦ = .bool true) rfl (by kernel_rfl) rfl (fun _ _ h => h) rfl fun K hK => ?_; clear hd; simp only [frD, qe7, qe14] at hK ⊢; go_simp
      exact hK _ _ (Below.refl _ _) rfl
    | 16, _ =>
      have qe14 : (vs 14) = .bool true := hd 14 (cm (by kernel_rfl)); have qe15 : (vs 15) = .bool true := hd 15 (cm (by kernel_rfl))
      refine step_val0 [(14, some 45), (15, some 46)] (fun vΦ _ => vΦ = .bool true) rfl (by kernel_rfl) rfl (fun _ _ h => h) rfl fun K hK => ?_; clear hd; simp only [frD, qe14, qe15] at hK ⊢; go_simp
      exact hK _ _ (Below.refl _ _) rfl
    | 17, _ =>
      have qe16 : (vs 16) = .bool true := hd 16 (cm (by kernel_rfl))
      refine step_valg [(16, some 47)] (fun vΦ _ => vΦ = .agg #[.bool b3, .slice A3 n3 c3, .bool d3, .slice B3 m3 e3]) rfl (by kernel_rfl) (fun _ _ h => h) rfl (wanted_some 47 rfl (by rfl) (by kernel_rfl) qe16) fun K hK => ?_; clear hd; simp only [frD, qe16] at hK ⊢; go_simp
      exact hK _ _ (Below.refl _ _) rfl
    | 18, _ =>
      have qe16 : (vs 16) = .bool true := hd 16 (cm (by kernel_rfl))
      refine step_valg [(16, some 47)] (fun vΦ _ => vΦ = .agg #[.bool b4, .slice A4 n4 c4, .bool d4, .slice B4 m4 e4]) rfl (by kernel_rfl) (fun _ _ h => h) rfl (wanted_some 47 rfl (by rfl) (by kernel_rfl) qe16) fun K hK => ?_; clear hd; simp only [frD, qe16] at hK ⊢; go_simp
      exact hK _ _ (Below.refl _ _) rfl
    | 19, _ =>
      have qe16 : (vs 16) = .bool true := hd 16 (cm (by kernel_rfl)); have qe17 : (vs 17) = .agg #[.bool b3, .slice A3 n3 c3, .bool d3, .slice B3 m3 e3] := hd 17 (cm (by kernel_rfl)); have qe18 : (vs 18) = .agg #[.bool b4, .slice A4 n4 c4, .bool d4, .slice B4 m4 e4] := hd 18 (cm (by kernel_rfl))
      refine step_call (F := 30) (X := .func (.func 30) #[] #[]) (A := #[(vs 17), (vs 18)]) (B := #[.agg #[.bool b3, .slice A3 n3 c3, .bool d3, .slice B3 m3 e3], .agg #[.bool b4, .slice A4 n4 c4, .bool d4, .slice B4 m4 e4]]) [(16, some 47), (17, some 48), (18, some 49)] (fun vΦ wΦ => RatRep wΦ vΦ (x * y)) rfl (by kernel_rfl) (fun _ _ h => h) rfl (wanted_some 47 rfl (by rfl) (by kernel_rfl) qe16) rfl rfl (by kernel_rfl) rfl (by kernel_rfl) (by rw [qe17, qe18]) Tryz.func30 (by kernel_rfl) (by kernel_rfl) ?_
      refine ((fmul_num ((S3.li 1 rfl).num) ((S3.li 0 rfl).num))).mono ?_; rintro e w4 ⟨U, rfl, hr, hk4⟩; exact ⟨_, rfl, hk4, hr⟩
    | 20, _ =>
      have qe16 : (vs 16) = .bool true := hd 16 (cm (by kernel_rfl))
      refine step_valg [(16, some 47)] (fun vΦ _ => vΦ = .agg #[.bool b3, .slice A3 n3 c3, .bool d3, .slice B3 m3 e3]) rfl (by kernel_rfl) (fun _ _ h => h) rfl (wanted_some 47 rfl (by rfl) (by kernel_rfl) qe16) fun K hK => ?_; clear hd; simp only [frD, qe16] at hK ⊢; go_simp
      exact hK _ _ (Below.refl _ _) rfl
    | 21, _ =>
      have qe16 : (vs 16) = .bool true := hd 16 (cm (by kernel_rfl))
      refine step_valg [(16, some 47)] (fun vΦ _ => vΦ = .agg #[.bool b4, .slice A4 n4 c4, .bool d4, .slice B4 m4 e4]) rfl (by kernel_rfl) (fun _ _ h => h) rfl (wanted_some 47 rfl (by rfl) (by kernel_rfl) qe16) fun K hK => ?_; clear hd; simp only [frD, qe16] at hK ⊢; go_simp
      exact hK _ _ (Below.refl _ _) rfl
    | 22, _ =>
      have qe16 : (vs 16) = .bool true := hd 16 (cm (by kernel_rfl)); have h19 : RatRep w3 (vs 19) (x * y) := hd 19 (cm (by kernel_rfl)); have qe20 : (vs 20) = .agg #[.bool b3, .slice A3 n3 c3, .bool d3, .slice B3 m3 e3] := hd 20 (cm (by kernel_rfl)); have qe21 : (vs 21) = .agg #[.bool b4, .slice A4 n4 c4, .bool d4, .slice B4 m4 e4] := hd 21 (cm (by kernel_rfl))
      refine step_call (F := 61) (X := .func (.func 61) #[] #[]) (A := #[(vs 20), (vs 21)]) (B := #[.agg #[.bool b3, .slice A3 n3 c3, .bool d3, .slice B3 m3 e3], .agg #[.bool b4, .slice A4 n4 c4, .bool d4, .slice B4 m4 e4]]) [(16, some 47), (19, some 50), (20, some 51), (21, some 52)] (fun vΦ wΦ => RatRep wΦ vΦ (x * y)) rfl (by kernel_rfl) (fun _ _ h => h) rfl (wanted_some 47 rfl (by rfl) (by kernel_rfl) qe16) rfl rfl (by kernel_rfl) rfl (by kernel_rfl) (by rw [qe20, qe21]) Tryz.func61 (by kernel_rfl) (by kernel_rfl) ?_
      refine ((gmul_num ((S3.li 1 rfl).num) ((S3.li 0 rfl).num))).mono ?_; rintro e w4 ⟨U, rfl, hr, hk4⟩; exact ⟨_, rfl, hk4, hr⟩
    | 23, _ =>
      have qe16 : (vs 16) = .bool true := hd 16 (cm (by kernel_rfl)); have h19 : RatRep w3 (vs 19) (x * y) := hd 19 (cm (by kernel_rfl)); have h22 : RatRep w3 (vs 22) (x * y) := hd 22 (cm (by kernel_rfl))
      refine step_call (F := 21) (X := .func (.func 21) #[] #[]) (A := #[(vs 19), (vs 22)]) (B := #[(vs 19), (vs 22)]) [(16, some 47), (19, some 50), (22, some 53)] (fun vΦ _ => vΦ = .bool true) rfl (by kernel_rfl) (fun _ _ h => h) rfl (wanted_some 47 rfl (by rfl) (by kernel_rfl) qe16) rfl rfl (by kernel_rfl) rfl (by kernel_rfl) rfl Tryz.func21 (by kernel_rfl) (by kernel_rfl) ?_
      refine ((gsame_s (b := true) h19 h22 (by omega) (decide_eq_true rfl))).mono ?_; rintro e w4 ⟨rfl, hk4⟩; exact ⟨_, rfl, hk4, rfl⟩
    | 24, _ =>
      have qe16 : (vs 16) = .bool true := hd 16 (cm (by kernel_rfl)); have qe23 : (vs 23) = .bool true := hd 23 (cm (by kernel_rfl))
      refine step_val0 [(16, some 47), (23, some 54)] (fun vΦ _ => vΦ = .bool true) rfl (by kernel_rfl) rfl (fun _ _ h => h) rfl fun K hK => ?_; clear hd; simp only [frD, qe16, qe23] at hK ⊢; go_simp
      exact hK _ _ (Below.refl _ _) rfl
    | 25, _ =>
      have qe23 : (vs 23) = .bool true := hd 23 (cm (by kernel_rfl)); have qe24 : (vs 24) = .bool true := hd 24 (cm (by kernel_rfl))
      refine step_val0 [(23, some 54), (24, some 55)] (fun vΦ _ => vΦ = .bool true) rfl (by kernel_rfl) rfl (fun _ _ h => h) rfl fun K hK => ?_; clear hd; simp only [frD, qe23, qe24] at hK ⊢; go_simp
      exact hK _ _ (Below.refl _ _) rfl
    | 26, _ =>
      have qe25 : (vs 25) = .bool true := hd 25 (cm (by kernel_rfl))
      refine step_valg [(25, some 56)] (fun vΦ _ => vΦ = .agg #[.bool false, .slice none 0 0, .bool false, .slice none 0 0]) rfl (by kernel_rfl) (fun _ _ h => h) rfl (wanted_some 56 rfl (by rfl) (by kernel_rfl) qe25) fun K hK => ?_; clear hd; simp only [frD, qe25] at hK ⊢; go_simp
      exact hK _ _ (Below.refl _ _) rfl
    | 27, _ =>
      have qe25 : (vs 25) = .bool true := hd 25 (cm (by kernel_rfl))
      refine step_valg [(25, some 56)] (fun vΦ _ => vΦ = .int .i64 14) rfl (by kernel_rfl) (fun _ _ h => h) rfl (wanted_some 56 rfl (by rfl) (by kernel_rfl) qe25) fun K hK => ?_; clear hd; simp only [frD, qe25] at hK ⊢; go_simp
      exact hK _ _ (Below.refl _ _) rfl
    | 28, _ =>
      have qe25 : (vs 25) = .bool true := hd 25 (cm (by kernel_rfl))
      refine step_valg [(25, some 56)] (fun vΦ _ => vΦ = .agg #[.bool false, .slice none 0 0, .bool false, .slice none 0 0]) rfl (by kernel_rfl) (fun _ _ h => h) rfl (wanted_some 56 rfl (by rfl) (by kernel_rfl) qe25) fun K hK => ?_; clear hd; simp only [frD, qe25] at hK ⊢; go_simp
      exact hK _ _ (Below.refl _ _) rfl
    | 29, _ =>
      have qe25 : (vs 25) = .bool true := hd 25 (cm (by kernel_rfl))
      refine step_valg [(25, some 56)] (fun vΦ _ => vΦ = .int .i64 14) rfl (by kernel_rfl) (fun _ _ h => h) rfl (wanted_some 56 rfl (by rfl) (by kernel_rfl) qe25) fun K hK => ?_; clear hd; simp only [frD, qe25] at hK ⊢; go_simp
      exact hK _ _ (Below.refl _ _) rfl
    | 30, _ =>
      have qe25 : (vs 25) = .bool true := hd 25 (cm (by kernel_rfl)); have qe26 : (vs 26) = .agg #[.bool false, .slice none 0 0, .bool false, .slice none 0 0] := hd 26 (cm (by kernel_rfl)); have qe27 : (vs 27) = .int .i64 14 := hd 27 (cm (by kernel_rfl)); have qe28 : (vs 28) = .agg #[.bool false, .slice none 0 0, .bool false, .slice none 0 0] := hd 28 (cm (by kernel_rfl)); have qe29 : (vs 29) = .int .i64 14 := hd 29 (cm (by kernel_rfl))
      refine step_call (F := 20) (X := .func (.func 20) #[] #[]) (A := #[(vs 26), (vs 27), (vs 28), (vs 29)]) (B := #[.agg #[.bool false, .slice none 0 0, .bool false, .slice none 0 0], .int .i64 14, .agg #[.bool false, .slice none 0 0, .bool false, .slice none 0 0], .int .i64 14]) [(25, some 56), (26, some 57), (27, some 58), (28, some 59), (29, some 60)] (fun vΦ _ => vΦ = .bool true) rfl (by kernel_rfl) (fun _ _ h => h) rfl (wanted_some 56 rfl (by rfl) (by kernel_rfl) qe25) rfl rfl (by kernel_rfl) rfl (by kernel_rfl) (by rw [qe26, qe27, qe28, qe29]) Tryz.func20 (by kernel_rfl) (by kernel_rfl) ?_
      refine ((lsame_err (by decide))).mono ?_; rintro e w4 ⟨rfl, hk4⟩; exact ⟨_, rfl, hk4, rfl⟩
    | 31, _ =>
      have qe25 : (vs 25) = .bool true := hd 25 (cm (by kernel_rfl)); have qe30 : (vs 30) = .bool true := hd 30 (cm (by kernel_rfl))
      refine step_val0 [(25, some 56), (30, some 61)] (fun vΦ _ => vΦ = .bool true) rfl (by kernel_rfl) rfl (fun _ _ h => h) rfl fun K hK => ?_; clear hd; simp only [frD, qe25, qe30] at hK ⊢; go_simp
      exact hK _ _ (Below.refl _ _) rfl
    | 32, _ =>
      have qe30 : (vs 30) = .bool true := hd 30 (cm (by kernel_rfl)); have qe31 : (vs 31) = .bool true := hd 31 (cm (by kernel_rfl))
      refine step_val0 [(30, some 61), (31, some 62)] (fun vΦ _ => vΦ = .bool true) rfl (by kernel_rfl) rfl (fun _ _ h => h) rfl fun K hK => ?_; clear hd; simp only [frD, qe30, qe31] at hK ⊢; go_simp
      exact hK _ _ (Below.refl _ _) rfl
    | 33, _ =>
      have qe32 : (vs 32) = .bool true := hd 32 (cm (by kernel_rfl))
      refine step_valg [(32, some 63)] (fun vΦ _ => vΦ = .agg #[.bool b3, .slice A3 n3 c3, .bool d3, .slice B3 m3 e3]) rfl (by kernel_rfl) (fun _ _ h => h) rfl (wanted_some 63 rfl (by rfl) (by kernel_rfl) qe32) fun K hK => ?_; clear hd; simp only [frD, qe32] at hK ⊢; go_simp
      exact hK _ _ (Below.refl _ _) rfl
    | 34, _ =>
      have qe32 : (vs 32) = .bool true := hd 32 (cm (by kernel_rfl))
      refine step_valg [(32, some 63)] (fun vΦ _ => vΦ = .agg #[.bool b4, .slice A4 n4 c4, .bool d4, .slice B4 m4 e4]) rfl (by kernel_rfl) (fun _ _ h => h) rfl (wanted_some 63 rfl (by rfl) (by kernel_rfl) qe32) fun K hK => ?_; clear hd; simp only [frD, qe32] at hK ⊢; go_simp
      exact hK _ _ (Below.refl _ _) rfl
    | 35, _ =>
      have qe32 : (vs 32) = .bool true := hd 32 (cm (by kernel_rfl)); have qe33 : (vs 33) = .agg #[.bool b3, .slice A3 n3 c3, .bool d3, .slice B3 m3 e3] := hd 33 (cm (by kernel_rfl)); have qe34 : (vs 34) = .agg #[.bool b4, .slice A4 n4 c4, .bool d4, .slice B4 m4 e4] := hd 34 (cm (by kernel_rfl))
      refine step_call (F := 32) (X := .func (.func 32) #[] #[]) (A := #[(vs 33), (vs 34)]) (B := #[.agg #[.bool b3, .slice A3 n3 c3, .bool d3, .slice B3 m3 e3], .agg #[.bool b4, .slice A4 n4 c4, .bool d4, .slice B4 m4 e4]]) [(32, some 63), (33, some 64), (34, some 65)] (fun vΦ _ => vΦ = .int .i64 s1) rfl (by kernel_rfl) (fun _ _ h => h) rfl (wanted_some 63 rfl (by rfl) (by kernel_rfl) qe32) rfl rfl (by kernel_rfl) rfl (by kernel_rfl) (by rw [qe33, qe34]) Tryz.func32 (by kernel_rfl) (by kernel_rfl) ?_
      refine ((fcompare_s ((S3.li 1 rfl).num) ((S3.li 0 rfl).num) HS1.out)).mono ?_; rintro e w4 ⟨rfl, hk4⟩; exact ⟨_, rfl, hk4, rfl⟩
    | 36, _ =>
      have qe32 : (vs 32) = .bool true := hd 32 (cm (by kernel_rfl))
      refine step_valg [(32, some 63)] (fun vΦ _ => vΦ = .agg #[.bool b3, .slice A3 n3 c3, .bool d3, .slice B3 m3 e3]) rfl (by kernel_rfl) (fun _ _ h => h) rfl (wanted_some 63 rfl (by rfl) (by kernel_rfl) qe32) fun K hK => ?_; clear hd; simp only [frD, qe32] at hK ⊢; go_simp
      exact hK _ _ (Below.refl _ _) rfl
    | 37, _ =>
      have qe32 : (vs 32) = .bool true := hd 32 (cm (by kernel_rfl))
      refine step_valg [(32, some 63)] (fun vΦ _ => vΦ = .agg #[.bool b4, .slice A4 n4 c4, .bool d4, .slice B4 m4 e4]) rfl (by kernel_rfl) (fun _ _ h => h) rfl (wanted_some 63 rfl (by rfl) (by kernel_rfl) qe32) fun K hK => ?_; clear hd; simp only [frD, qe32] at hK ⊢; go_simp
      exact hK _ _ (Below.refl _ _) rfl
    | 38, _ =>
      have qe32 : (vs 32) = .bool true := hd 32 (cm (by kernel_rfl)); have qe35 : (vs 35) = .int .i64 s1 := hd 35 (cm (by kernel_rfl)); have qe36 : (vs 36) = .agg #[.bool b3, .slice A3 n3 c3, .bool d3, .slice B3 m3 e3] := hd 36 (cm (by kernel_rfl)); have qe37 : (vs 37) = .agg #[.bool b4, .slice A4 n4 c4, .bool d4, .slice B4 m4 e4] := hd 37 (cm (by kernel_rfl))
      refine step_call (F := 43) (X := .func (.func 43) #[] #[]) (A := #[(vs 36), (vs 37)]) (B := #[.agg #[.bool b3, .slice A3 n3 c3, .bool d3, .slice B3 m3 e3], .agg #[.bool b4, .slice A4 n4 c4, .bool d4, .slice B4 m4 e4]]) [(32, some 63), (35, some 66), (36, some 67), (37, some 68)] (fun vΦ _ => vΦ = .int .i64 s1) rfl (by kernel_rfl) (fun _ _ h => h) rfl (wanted_some 63 rfl (by rfl) (by kernel_rfl) qe32) rfl rfl (by kernel_rfl) rfl (by kernel_rfl) (by rw [qe36, qe37]) Tryz.func43 (by kernel_rfl) (by kernel_rfl) ?_
      refine ((gcompare_s ((S3.li 1 rfl).num) ((S3.li 0 rfl).num) (by omega) HS1.out)).mono ?_; rintro e w4 ⟨rfl, hk4⟩; exact ⟨_, rfl, hk4, rfl⟩
    | 39, _ =>
      have qe32 : (vs 32) = .bool true := hd 32 (cm (by kernel_rfl)); have qe35 : (vs 35) = .int .i64 s1 := hd 35 (cm (by kernel_rfl)); have qe38 : (vs 38) = .int .i64 s1 := hd 38 (cm (by kernel_rfl))
      refine step_valg [(32, some 63), (35, some 66), (38, some 69)] (fun vΦ _ => vΦ = .bool true) rfl (by kernel_rfl) (fun _ _ h => h) rfl (wanted_some 63 rfl (by rfl) (by kernel_rfl) qe32) fun K hK => ?_; clear hd; simp only [frD, qe32, qe35, qe38] at hK ⊢; go_simp
      exact hK _ _ (Below.refl _ _) rfl
    | 40, _ =>
      have qe32 : (vs 32) = .bool true := hd 32 (cm (by kernel_rfl)); have qe39 : (vs 39) = .bool true := hd 39 (cm (by kernel_rfl))
      refine step_val0 [(32, some 63), (39, some 70)] (fun vΦ _ => vΦ = .bool true) rfl (by kernel_rfl) rfl (fun _ _ h => h) rfl fun K hK => ?_; clear hd; simp only [frD, qe32, qe39] at hK ⊢; go_simp
      exact hK _ _ (Below.refl _ _) rfl
    | 41, _ =>
      have qe38 : (vs 38) = .int .i64 s1 := hd 38 (cm (by kernel_rfl)); have qe40 : (vs 40) = .bool true := hd 40 (cm (by kernel_rfl))
      refine step_val0 [(38, some 69), (40, some 71)] (fun vΦ _ => vΦ = .bool true) rfl (by kernel_rfl) rfl (fun _ _ h => h) rfl fun K hK => ?_; clear hd; simp only [frD, qe38, qe40] at hK ⊢; go_simp
      exact hK _ _ (Below.refl _ _) rfl
    | 42, _ =>
      have qe41 : (vs 41) = .bool true := hd 41 (cm (by kernel_rfl))
      refine step_valg [(41, some 72)] (fun vΦ _ => vΦ = .agg #[.bool b3, .slice A3 n3 c3, .bool d3, .slice B3 m3 e3]) rfl (by kernel_rfl) (fun _ _ h => h) rfl (wanted_some 72 rfl (by rfl) (by kernel_rfl) qe41) fun K hK => ?_; clear hd; simp only [frD, qe41] at hK ⊢; go_simp
      exact hK _ _ (Below.refl _ _) rfl
    | 43, _ =>
      have qe41 : (vs 41) = .bool true := hd 41 (cm (by kernel_rfl)); have qe42 : (vs 42) = .agg #[.bool b3, .slice A3 n3 c3, .bool d3, .slice B3 m3 e3] := hd 42 (cm (by kernel_rfl))
      refine step_call (F := 33) (X := .func (.func 33) #[] #[]) (A := #[(vs 42)]) (B := #[.agg #[.bool b3, .slice A3 n3 c3, .bool d3, .slice B3 m3 e3]]) [(41, some 72), (42, some 73)] (fun vΦ _ => vΦ = .int .i64 s2) rfl (by kernel_rfl) (fun _ _ h => h) rfl (wanted_some 72 rfl (by rfl) (by kernel_rfl) qe41) rfl rfl (by kernel_rfl) rfl (by kernel_rfl) (by rw [qe42]) Tryz.func33 (by kernel_rfl) (by kernel_rfl) ?_
      refine ((fsign_s ((S3.li 1 rfl).num) HS2.out)).mono ?_; rintro e w4 ⟨rfl, hk4⟩; exact ⟨_, rfl, hk4, rfl⟩
    | 44, _ =>
      have qe41 : (vs 41) = .bool true := hd 41 (cm (by kernel_rfl))
      refine step_valg [(41, some 72)] (fun vΦ _ => vΦ = .agg #[.bool b3, .slice A3 n3 c3, .bool d3, .slice B3 m3 e3]) rfl (by kernel_rfl) (fun _ _ h => h) rfl (wanted_some 72 rfl (by rfl) (by kernel_rfl) qe41) fun K hK => ?_; clear hd; simp only [frD, qe41] at hK ⊢; go_simp
      exact hK _ _ (Below.refl _ _) rfl
    | 45, _ =>
      have qe41 : (vs 41) = .bool true := hd 41 (cm (by kernel_rfl)); have qe43 : (vs 43) = .int .i64 s2 := hd 43 (cm (by kernel_rfl)); have qe44 : (vs 44) = .agg #[.bool b3, .slice A3 n3 c3, .bool d3, .slice B3 m3 e3] := hd 44 (cm (by kernel_rfl))
      refine step_call (F := 62) (X := .func (.func 62) #[] #[]) (A := #[(vs 44)]) (B := #[.agg #[.bool b3, .slice A3 n3 c3, .bool d3, .slice B3 m3 e3]]) [(41, some 72), (43, some 74), (44, some 75)] (fun vΦ _ => vΦ = .int .i64 s2) rfl (by kernel_rfl) (fun _ _ h => h) rfl (wanted_some 72 rfl (by rfl) (by kernel_rfl) qe41) rfl rfl (by kernel_rfl) rfl (by kernel_rfl) (by rw [qe44]) Tryz.func62 (by kernel_rfl) (by kernel_rfl) ?_
      refine ((gsign_s ((S3.li 1 rfl).num) HS2.out)).mono ?_; rintro e w4 ⟨rfl, hk4⟩; exact ⟨_, rfl, hk4, rfl⟩
    | 46, _ =>
      have qe41 : (vs 41) = .bool true := hd 41 (cm (by kernel_rfl)); have qe43 : (vs 43) = .int .i64 s2 := hd 43 (cm (by kernel_rfl)); have qe45 : (vs 45) = .int .i64 s2 := hd 45 (cm (by kernel_rfl))
      refine step_valg [(41, some 72), (43, some 74), (45, some 76)] (fun vΦ _ => vΦ = .bool true) rfl (by kernel_rfl) (fun _ _ h => h) rfl (wanted_some 72 rfl (by rfl) (by kernel_rfl) qe41) fun K hK => ?_; clear hd; simp only [frD, qe41, qe43, qe45] at hK ⊢; go_simp
      exact hK _ _ (Below.refl _ _) rfl
    | 47, _ =>
      have qe41 : (vs 41) = .bool true := hd 41 (cm (by kernel_rfl)); have qe46 : (vs 46) = .bool true := hd 46 (cm (by kernel_rfl))
      refine step_val0 [(41, some 72), (46, some 77)] (fun vΦ _ => vΦ = .bool true) rfl (by kernel_rfl) rfl (fun _ _ h => h) rfl fun K hK => ?_; clear hd; simp only [frD, qe41, qe46] at hK ⊢; go_simp
      exact hK _ _ (Below.refl _ _) rfl
    | 48, _ =>
      have qe45 : (vs 45) = .int .i64 s2 := hd 45 (cm (by kernel_rfl)); have qe47 : (vs 47) = .bool true := hd 47 (cm (by kernel_rfl))
      refine step_val0 [(45, some 76), (47, some 78)] (fun vΦ _ => vΦ = .bool true) rfl (by kernel_rfl) rfl (fun _ _ h => h) rfl fun K hK => ?_; clear hd; simp only [frD, qe45, qe47] at hK ⊢; go_simp
      exact hK _ _ (Below.refl _ _) rfl
    | 49, _ =>
      have qe48 : (vs 48) = .bool true := hd 48 (cm (by kernel_rfl))
      refine step_valg [(48, some 79)] (fun vΦ _ => vΦ = .agg #[.bool b3, .slice A3 n3 c3, .bool d3, .slice B3 m3 e3]) rfl (by kernel_rfl) (fun _ _ h => h) rfl (wanted_some 79 rfl (by rfl) (by kernel_rfl) qe48) fun K hK => ?_; clear hd; simp only [frD, qe48] at hK ⊢; go_simp
      exact hK _ _ (Below.refl _ _) rfl
    | 50, _ =>
      have qe48 : (vs 48) = .bool true := hd 48 (cm (by kernel_rfl)); have qe49 : (vs 49) = .agg #[.bool b3, .slice A3 n3 c3, .bool d3, .slice B3 m3 e3] := hd 49 (cm (by kernel_rfl))
      refine step_call (F := 34) (X := .func (.func 34) #[] #[]) (A := #[(vs 49)]) (B := #[.agg #[.bool b3, .slice A3 n3 c3, .bool d3, .slice B3 m3 e3]]) [(48, some 79), (49, some 80)] (fun vΦ wΦ => RatRep wΦ vΦ (-x)) rfl (by kernel_rfl) (fun _ _ h => h) rfl (wanted_some 79 rfl (by rfl) (by kernel_rfl) qe48) rfl rfl (by kernel_rfl) rfl (by kernel_rfl) (by rw [qe49]) Tryz.func34 (by kernel_rfl) (by kernel_rfl) ?_
      refine ((fneg_num ((S3.li 1 rfl).num))).mono ?_; rintro e w4 ⟨U, rfl, hr, hk4⟩; exact ⟨_, rfl, hk4, hr⟩
    | 51, _ =>
      have qe48 : (vs 48) = .bool true := hd 48 (cm (by kernel_rfl))
      refine step_valg [(48, some 79)] (fun vΦ _ => vΦ = .agg #[.bool b3, .slice A3 n3 c3, .bool d3, .slice B3 m3 e3]) rfl (by kernel_rfl) (fun _ _ h => h) rfl (wanted_some 79 rfl (by rfl) (by kernel_rfl) qe48) fun K hK => ?_; clear hd; simp only [frD, qe48] at hK ⊢; go_simp
      exact hK _ _ (Below.refl _ _) rfl
    | 52, _ =>
      have qe48 : (vs 48) = .bool true := hd 48 (cm (by kernel_rfl)); have h50 : RatRep w3 (vs 50) (-x) := hd 50 (cm (by kernel_rfl)); have qe51 : (vs 51) = .agg #[.bool b3, .slice A3 n3 c3, .bool d3, .slice B3 m3 e3] := hd 51 (cm (by kernel_rfl))
      refine step_call (F := 63) (X := .func (.func 63) #[] #[]) (A := #[(vs 51)]) (B := #[.agg #[.bool b3, .slice A3 n3 c3, .bool d3, .slice B3 m3 e3]]) [(48, some 79), (50, some 81), (51, some 82)] (fun vΦ wΦ => RatRep wΦ vΦ (-x)) rfl (by kernel_rfl) (fun _ _ h => h) rfl (wanted_some 79 rfl (by rfl) (by kernel_rfl) qe48) rfl rfl (by kernel_rfl) rfl (by kernel_rfl) (by rw [qe51]) Tryz.func63 (by kernel_rfl) (by kernel_rfl) ?_
      refine ((gneg_num ((S3.li 1 rfl).num))).mono ?_; rintro e w4 ⟨U, rfl, hr, hk4⟩; exact ⟨_, rfl, hk4, hr⟩
    | 53, _ =>
      have qe48 : (vs 48) = .bool true := hd 48 (cm (by kernel_rfl)); have h50 : RatRep w3 (vs 50) (-x) := hd 50 (cm (by kernel_rfl)); have h52 : RatRep w3 (vs 52) (-x) := hd 52 (cm (by kernel_rfl))
      refine step_call (F := 21) (X := .func (.func 21) #[] #[]) (A := #[(vs 50), (vs 52)]) (B := #[(vs 50), (vs 52)]) [(48, some 79), (50, some 81), (52, some 83)] (fun vΦ _ => vΦ = .bool true) rfl (by kernel_rfl) (fun _ _ h => h) rfl (wanted_some 79 rfl (by rfl) (by kernel_rfl) qe48) rfl rfl (by kernel_rfl) rfl (by kernel_rfl) rfl Tryz.func21 (by kernel_rfl) (by kernel_rfl) ?_
      refine ((gsame_s (b := true) h50 h52 (by omega) (decide_eq_true rfl))).mono ?_; rintro e w4 ⟨rfl, hk4⟩; exact ⟨_, rfl, hk4, rfl⟩
    | 54, _ =>
      have qe48 : (vs 48) = .bool true := hd 48 (cm (by kernel_rfl)); have qe53 : (vs 53) = .bool true := hd 53 (cm (by kernel_rfl))
      refine step_val0 [(48, some 79), (53, some 84)] (fun vΦ _ => vΦ = .bool true) rfl (by kernel_rfl) rfl (fun _ _ h => h) rfl fun K hK => ?_; clear hd; simp only [frD, qe48, qe53] at hK ⊢; go_simp
      exact hK _ _ (Below.refl _ _) rfl
    | 55, _ =>
      have qe53 : (vs 53) = .bool true := hd 53 (cm (by kernel_rfl)); have qe54 : (vs 54) = .bool true := hd 54 (cm (by kernel_rfl))
      refine step_val0 [(53, some 84), (54, some 85)] (fun vΦ _ => vΦ = .bool true) rfl (by kernel_rfl) rfl (fun _ _ h => h) rfl fun K hK => ?_; clear hd; simp only [frD, qe53, qe54] at hK ⊢; go_simp
      exact hK _ _ (Below.refl _ _) rfl
    | 56, _ =>
      have qe55 : (vs 55) = .bool true := hd 55 (cm (by kernel_rfl))
      refine step_valg [(55, some 86)] (fun vΦ _ => vΦ = .agg #[.bool b3, .slice A3 n3 c3, .bool d3, .slice B3 m3 e3]) rfl (by kernel_rfl) (fun _ _ h => h) rfl (wanted_some 86 rfl (by rfl) (by kernel_rfl) qe55) fun K hK => ?_; clear hd; simp only [frD, qe55] at hK ⊢; go_simp
      exact hK _ _ (Below.refl _ _) rfl
    | 57, _ =>
      have qe55 : (vs 55) = .bool true := hd 55 (cm (by kernel_rfl)); have qe56 : (vs 56) = .agg #[.bool b3, .slice A3 n3 c3, .bool d3, .slice B3 m3 e3] := hd 56 (cm (by kernel_rfl))
      refine step_call (F := 64) (X := .func (.func 64) #[] #[]) (A := #[(vs 56)]) (B := #[.agg #[.bool b3, .slice A3 n3 c3, .bool d3, .slice B3 m3 e3]]) [(55, some 86), (56, some 87)] (fun vΦ wΦ => RatRep wΦ vΦ (absR x)) rfl (by kernel_rfl) (fun _ _ h => h) rfl (wanted_some 86 rfl (by rfl) (by kernel_rfl) qe55) rfl rfl (by kernel_rfl) rfl (by kernel_rfl) (by rw [qe56]) Tryz.func64 (by kernel_rfl) (by kernel_rfl) ?_
      refine ((fabs_num ((S3.li 1 rfl).num))).mono ?_; rintro e w4 ⟨U, rfl, hr, hk4⟩; exact ⟨_, rfl, hk4, hr⟩
    | 58, _ =>
      have qe55 : (vs 55) = .bool true := hd 55 (cm (by kernel_rfl))
      refine step_valg [(55, some 86)] (fun vΦ _ => vΦ = .agg #[.bool b3, .slice A3 n3 c3, .bool d3, .slice B3 m3 e3]) rfl (by kernel_rfl) (fun _ _ h => h) rfl (wanted_some 86 rfl (by rfl) (by kernel_rfl) qe55) fun K hK => ?_; clear hd; simp only [frD, qe55] at hK ⊢; go_simp
      exact hK _ _ (Below.refl _ _) rfl
    | 59, _ =>
      have qe55 : (vs 55) = .bool true := hd 55 (cm (by kernel_rfl)); have h57 : RatRep w3 (vs 57) (absR x) := hd 57 (cm (by kernel_rfl)); have qe58 : (vs 58) = .agg #[.bool b3, .slice A3 n3 c3, .bool d3, .slice B3 m3 e3] := hd 58 (cm (by kernel_rfl))
      refine step_call (F := 65) (X := .func (.func 65) #[] #[]) (A := #[(vs 58)]) (B := #[.agg #[.bool b3, .slice A3 n3 c3, .bool d3, .slice B3 m3 e3]]) [(55, some 86), (57, some 88), (58, some 89)] (fun vΦ wΦ => RatRep wΦ vΦ (absR x)) rfl (by kernel_rfl) (fun _ _ h => h) rfl (wanted_some 86 rfl (by rfl) (by kernel_rfl) qe55) rfl rfl (by kernel_rfl) rfl (by kernel_rfl) (by rw [qe58]) Tryz.func65 (by kernel_rfl) (by kernel_rfl) ?_
      refine ((gabs_num ((S3.li 1 rfl).num))).mono ?_; rintro e w4 ⟨U, rfl, hr, hk4⟩; exact ⟨_, rfl, hk4, hr⟩
    | 60, _ =>
      have qe55 : (vs 55) = .bool true := hd 55 (cm (by kernel_rfl)); have h57 : RatRep w3 (vs 57) (absR x) := hd 57 (cm (by kernel_rfl)); have h59 : RatRep w3 (vs 59) (absR x) := hd 59 (cm (by kernel_rfl))
      refine step_call (F := 21) (X := .func (.func 21) #[] #[]) (A := #[(vs 57), (vs 59)]) (B := #[(vs 57), (vs 59)]) [(55, some 86), (57, some 88), (59, some 90)] (fun vΦ _ => vΦ = .bool true) rfl (by kernel_rfl) (fun _ _ h => h) rfl (wanted_some 86 rfl (by rfl) (by kernel_rfl) qe55) rfl rfl (by kernel_rfl) rfl (by kernel_rfl) rfl Tryz.func21 (by kernel_rfl) (by kernel_rfl) ?_
      refine ((gsame_s (b := true) h57 h59 (by omega) (decide_eq_true rfl))).mono ?_; rintro e w4 ⟨rfl, hk4⟩; exact ⟨_, rfl, hk4, rfl⟩
    | 61, _ =>
      have qe55 : (vs 55) = .bool true := hd 55 (cm (by kernel_rfl)); have qe60 : (vs 60) = .bool true := hd 60 (cm (by kernel_rfl))
      refine step_val0 [(55, some 86), (60, some 91)] (fun vΦ _ => vΦ = .bool true) rfl (by kernel_rfl) rfl (fun _ _ h => h) rfl fun K hK => ?_; clear hd; simp only [frD, qe55, qe60] at hK ⊢; go_simp
      exact hK _ _ (Below.refl _ _) rfl
    | i + 62, hi => exact absurd hi (by omega)
  · intro vs W9 hk3 hΦ _
    simp only [List.drop_succ_cons, List.drop_zero]
    rw [fr_frD, show (List.range 62).map _ = [(0, some 31), (1, some 32), (2, some 33), (3, some 34), (4, some 35), (5, some 36), (6, some 37), (7, some 38), (8, some 39), (9, some 40), (10, some 41), (11, some 42), (12, some 43), (13, some 44), (14, some 45), (15, some 46), (16, some 47), (17, some 48), (18, some 49), (19, some 50), (20, some 51), (21, some 52), (22, some 53), (23, some 54), (24, some 55), (25, some 56), (26, some 57), (27, some 58), (28, some 59), (29, some 60), (30, some 61), (31, some 62), (32, some 63), (33, some 64), (34, some 65), (35, some 66), (36, some 67), (37, some 68), (38, some 69), (39, some 70), (40, some 71), (41, some 72), (42, some 73), (43, some 74), (44, some 75), (45, some 76), (46, some 77), (47, some 78), (48, some 79), (49, some 80), (50, some 81), (51, some 82), (52, some 83), (53, some 84), (54, some 85), (55, some 86), (56, some 87), (57, some 88), (58, some 89), (59, some 90), (60, some 91), (61, some 92)] by kernel_rfl]
    have pa0 : (vs 0) = .agg #[.bool b3, .slice A3 n3 c3, .bool d3, .slice B3 m3 e3] := hΦ 0 (by decide)
    have pa1 : (vs 1) = .agg #[.bool b4, .slice A4 n4 c4, .bool d4, .slice B4 m4 e4] := hΦ 1 (by decide)
    have pa2 : RatRep W9 (vs 2) (x + y) := hΦ 2 (by decide)
    have pa3 : (vs 3) = .agg #[.bool b3, .slice A3 n3 c3, .bool d3, .slice B3 m3 e3] := hΦ 3 (by decide)
    have pa4 : (vs 4) = .agg #[.bool b4, .slice A4 n4 c4, .bool d4, .slice B4 m4 e4] := hΦ 4 (by decide)
    have pa5 : RatRep W9 (vs 5) (x + y) := hΦ 5 (by decide)
    have pa6 : (vs 6) = .bool true := hΦ 6 (by decide)
    have pa7 : (vs 7) = .bool true := hΦ 7 (by decide)
    have pa8 : (vs 8) = .agg #[.bool b3, .slice A3 n3 c3, .bool d3, .slice B3 m3 e3] := hΦ 8 (by decide)
    have pa9 : (vs 9) = .agg #[.bool b4, .slice A4 n4 c4, .bool d4, .slice B4 m4 e4] := hΦ 9 (by decide)
    have pa10 : RatRep W9 (vs 10) (x - y) := hΦ 10 (by decide)
    have pa11 : (vs 11) = .agg #[.bool b3, .slice A3 n3 c3, .bool d3, .slice B3 m3 e3] := hΦ 11 (by decide)
    have pa12 : (vs 12) = .agg #[.bool b4, .slice A4 n4 c4, .bool d4, .slice B4 m4 e4] := hΦ 12 (by decide)
    have pa13 : RatRep W9 (vs 13) (x - y) := hΦ 13 (by decide)
    have pa14 : (vs 14) = .bool true := hΦ 14 (by decide)
    have pa15 : (vs 15) = .bool true := hΦ 15 (by decide)
    have pa16 : (vs 16) = .bool true := hΦ 16 (by decide)
    have pa17 : (vs 17) = .agg #[.bool b3, .slice A3 n3 c3, .bool d3, .slice B3 m3 e3] := hΦ 17 (by decide)
    have pa18 : (vs 18) = .agg #[.bool b4, .slice A4 n4 c4, .bool d4, .slice B4 m4 e4] := hΦ 18 (by decide)
    have pa19 : RatRep W9 (vs 19) (x * y) := hΦ 19 (by decide)
    have pa20 : (vs 20) = .agg #[.bool b3, .slice A3 n3 c3, .bool d3, .slice B3 m3 e3] := hΦ 20 (by decide)
    have pa21 : (vs 21) = .agg #[.bool b4, .slice A4 n4 c4, .bool d4, .slice B4 m4 e4] := hΦ 21 (by decide)
    have pa22 : RatRep W9 (vs 22) (x * y) := hΦ 22 (by decide)
    have pa23 : (vs 23) = .bool true := hΦ 23 (by decide)
    have pa24 : (vs 24) = .bool true := hΦ 24 (by decide)
    have pa25 : (vs 25) = .bool true := hΦ 25 (by decide)
    have pa26 : (vs 26) = .agg #[.bool false, .slice none 0 0, .bool false, .slice none 0 0] := hΦ 26 (by decide)
    have pa27 : (vs 27) = .int .i64 14 := hΦ 27 (by decide)
    have pa28 : (vs 28) = .agg #[.bool false, .slice none 0 0, .bool false, .slice none 0 0] := hΦ 28 (by decide)
    have pa29 : (vs 29) = .int .i64 14 := hΦ 29 (by decide)
    have pa30 : (vs 30) = .bool true := hΦ 30 (by decide)
    have pa31 : (vs 31) = .bool true := hΦ 31 (by decide)
    have pa32 : (vs 32) = .bool true := hΦ 32 (by decide)
    have pa33 : (vs 33) = .agg #[.bool b3, .slice A3 n3 c3, .bool d3, .slice B3 m3 e3] := hΦ 33 (by decide)
    have pa34 : (vs 34) = .agg #[.bool b4, .slice A4 n4 c4, .bool d4, .slice B4 m4 e4] := hΦ 34 (by decide)
    have pa35 : (vs 35) = .int .i64 s1 := hΦ 35 (by decide)
    have pa36 : (vs 36) = .agg #[.bool b3, .slice A3 n3 c3, .bool d3, .slice B3 m3 e3] := hΦ 36 (by decide)
    have pa37 : (vs 37) = .agg #[.bool b4, .slice A4 n4 c4, .bool d4, .slice B4 m4 e4] := hΦ 37 (by decide)
    have pa38 : (vs 38) = .int .i64 s1 := hΦ 38 (by decide)
    have pa39 : (vs 39) = .bool true := hΦ 39 (by decide)
    have pa40 : (vs 40) = .bool true := hΦ 40 (by decide)
    have pa41 : (vs 41) = .bool true := hΦ 41 (by decide)
    have pa42 : (vs 42) = .agg #[.bool b3, .slice A3 n3 c3, .bool d3, .slice B3 m3 e3] := hΦ 42 (by decide)
    have pa43 : (vs 43) = .int .i64 s2 := hΦ 43 (by decide)
    have pa44 : (vs 44) = .agg #[.bool b3, .slice A3 n3 c3, .bool d3, .slice B3 m3 e3] := hΦ 44 (by decide)
    have pa45 : (vs 45) = .int .i64 s2 := hΦ 45 (by decide)
    have pa46 : (vs 46) = .bool true := hΦ 46 (by decide)
    have pa47 : (vs 47) = .bool true := hΦ 47 (by decide)
    have pa48 : (vs 48) = .bool true := hΦ 48 (by decide)
    have pa49 : (vs 49) = .agg #[.bool b3, .slice A3 n3 c3, .bool d3, .slice B3 m3 e3] := hΦ 49 (by decide)
    have pa50 : RatRep W9 (vs 50) (-x) := hΦ 50 (by decide)
    have pa51 : (vs 51) = .agg #[.bool b3, .slice A3 n3 c3, .bool d3, .slice B3 m3 e3] := hΦ 51 (by decide)
    have pa52 : RatRep W9 (vs 52) (-x) := hΦ 52 (by decide)
    have pa53 : (vs 53) = .bool true := hΦ 53 (by decide)
    have pa54 : (vs 54) = .bool true := hΦ 54 (by decide)
    have pa55 : (vs 55) = .bool true := hΦ 55 (by decide)
    have pa56 : (vs 56) = .agg #[.bool b3, .slice A3 n3 c3, .bool d3, .slice B3 m3 e3] := hΦ 56 (by decide)
    have pa57 : RatRep W9 (vs 57) (absR x) := hΦ 57 (by decide)
    have pa58 : (vs 58) = .agg #[.bool b3, .slice A3 n3 c3, .bool d3, .slice B3 m3 e3] := hΦ 58 (by decide)
    have pa59 : RatRep W9 (vs 59) (absR x) := hΦ 59 (by decide)
    have pa60 : (vs 60) = .bool true := hΦ 60 (by decide)
    have pa61 : (vs 61) = .bool true := hΦ 61 (by decide)
    clear hΦ
    simp only [frD, pa0, pa1, pa3, pa4, pa6, pa7, pa8, pa9, pa11, pa12, pa14, pa15, pa16, pa17, pa18, pa20, pa21, pa23, pa24, pa25, pa26, pa27, pa28, pa29, pa30, pa31, pa32, pa33, pa34, pa35, pa36, pa37, pa38, pa39, pa40, pa41, pa42, pa43, pa44, pa45, pa46, pa47, pa48, pa49, pa51, pa53, pa54, pa55, pa56, pa58, pa60, pa61]
    simp only [Act.put, List.setIfInBounds_toArray, List.set_cons_zero, List.set_cons_succ]
    clear pa0 pa1 pa3 pa4 pa6 pa7 pa8 pa9 pa11 pa12 pa14 pa15 pa16 pa17 pa18 pa20 pa21 pa23 pa24 pa25 pa26 pa27 pa28 pa29 pa30 pa31 pa32 pa33 pa34 pa35 pa36 pa37 pa38 pa39 pa40 pa41 pa42 pa43 pa44 pa45 pa46 pa47 pa48 pa49 pa51 pa53 pa54 pa55 pa56 pa58 pa60 pa61
    generalize vs 2 = Upa2 at pa2 ⊢
    generalize vs 5 = Upa5 at pa5 ⊢
    generalize vs 10 = Upa10 at pa10 ⊢
    generalize vs 13 = Upa13 at pa13 ⊢
    generalize vs 19 = Upa19 at pa19 ⊢
    generalize vs 22 = Upa22 at pa22 ⊢
    generalize vs 50 = Upa50 at pa50 ⊢
    generalize vs 52 = Upa52 at pa52 ⊢
    generalize vs 57 = Upa57 at pa57 ⊢
    generalize vs 59 = Upa59 at pa59 ⊢
    replace S := S.drew.below hk3
    clear pa2
    clear pa5
    clear pa10
    clear pa13
    clear pa19
    clear pa22
    clear pa50
    clear pa52
    clear pa57
    clear pa59
    clear hk3
    go_wp2
    go_ret
    exact ⟨rfl, S.k⟩
theorem arith_walk {w : World} {V1 V2 : Value} {x y : Rat} {b1 b2 : Bool} (h1 : RatS w V1 x b1) (h2 : RatS w V2 y b2) (ht : PowTab w) :
    Calls Tryz.prog 11 #[V1, V2] w fun e w' => e = .returned (.bool true) ∧ Keeps w w' := by
  cases b1 with
  | false => exact ari_1 h1 h2 ht
  | true => cases b2 with
    | false => exact ari_2 h1 h2 ht
    | true =>
      by_cases hy : y = 0
      · exact ari_zero h1 h2 ht hy
      · exact ari_ok h1 h2 ht hy
end Go.Proofs.YtmochehkkadjnaaGreatDoor
