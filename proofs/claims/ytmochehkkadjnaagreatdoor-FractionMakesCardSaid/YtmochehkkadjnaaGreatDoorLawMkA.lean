/- The walk of the law FractionMakes, one of four cases. -/
import Derived.Test.YtmochehkkadjnaaGreatDoorLawMk
namespace Go.Proofs.YtmochehkkadjnaaGreatDoor
open Go.RowKit Go.Shelf

set_option maxRecDepth 100000 in
set_option maxHeartbeats 16000000 in
theorem mk_00 {w : World} {V1 V2 : Value} {na nb : Bool} {xs ys : List Nat} {n0 n1 : Int} (h1 : IntArg w V1 na xs) (h2 : IntArg w V2 nb ys) (ht : PowTab w) (l1 : xs.length + ys.length ≤ 8) (hn0 : -9223372036854775808 ≤ n0 ∧ n0 ≤ 9223372036854775807) (hn1 : -9223372036854775808 ≤ n1 ∧ n1 ≤ 9223372036854775807) (hb : cnt nb ys ≠ 0) (hn : n1 ≠ 0) : Calls Tryz.prog 3 #[V1, V2, .agg #[.int .i64 n0, .int .i64 n1]] w (fun e w' => e = .returned (.bool true) ∧ Keeps w w') := by
  obtain ⟨A3, c3, rfl⟩ := h1.open2
  obtain ⟨A4, c4, rfl⟩ := h2.open2
  have v1 := szR_divInt (cnt na xs) (cnt nb ys) hb
  have v2 := szR_divInt n0 n1 hn
  have v3 := lenI_cnt na xs
  have v4 := lenI_cnt nb ys
  have v5 := lenI_w64 hn0
  have v6 := lenI_w64 hn1
  have v7 := szR_int n0
  obtain ⟨rq, hrq⟩ : ∃ q, rcnt na xs nb ys = q := ⟨_, rfl⟩
  obtain ⟨bv, hbv⟩ : ∃ b, rvalidB na xs nb ys = b := ⟨_, rfl⟩
  have v8 : szR rq ≤ 8 := by rw [← hrq]; have := szR_rcnt (n1 := na) (xs := xs) (n2 := nb) (ys := ys); omega
  have HB := Lib.hid (show newC (cnt nb ys) = 0 from if_neg hb)
  have HN := Lib.hid (show newC n1 = 0 from if_neg hn)
  have HQ := Lib.hid hrq
  have HV := Lib.hid hbv
  clear hb hn hrq hbv
  have q0 : IntKind.i64.wrap ((xs.length : Int) + (ys.length : Int)) = (xs.length : Int) + (ys.length : Int) := IntWalk.i64_in _ (by omega)
  have t1 : decide (8 < (xs.length : Int) + (ys.length : Int)) = false := decide_eq_false (by omega)
  have y0 := szR_int n0
  have S := (((St.start w).addA h1).addA h2)
  clear h1 h2
  go_enter Tryz.func3, Tryz.ntmps3
  go_wp2_with fail
  replace S := (((S.alloc 24 [.bool na, .slice A3 xs.length c3]).alloc 24 [.bool nb, .slice A4 ys.length c4]).alloc 25 [.int .i64 n0, .int .i64 n1])
  simp only [World.size_alloc] at S
  obtain ⟨W1, eW, S⟩ := S.pack
  rw [eW]
  clear eW
  refine ((known_any _ (ht.keep S.k))).mono ?_
  rintro e W2 ⟨rfl, hk⟩
  replace S := S.below hk
  clear hk
  have r0_0 := S.c 2 0 rfl rfl
  have r0_1 := S.c 2 1 rfl rfl
  have r1_0 := S.c 1 0 rfl rfl
  have r1_1 := S.c 1 1 rfl rfl
  go_wp2_with fail
  refine ((rcode_eq (fnew_num ((S.ai 1 rfl).nn (by omega)) ((S.ai 0 rfl).nn (by omega))) HB.out rfl)).mono ?_
  rintro e W3 ⟨U3, rfl, hp, hk⟩
  rw [if_pos rfl] at hp
  obtain ⟨b5, A5, n5, c5, d5, B5, m5, e5, rfl⟩ := hp.open_
  replace S := (S.below hk).addQ hp
  clear hk hp
  clear r0_0 r0_1 r1_0 r1_1
  go_upto_region 6 with fail
  replace S := (S.alloc 28 [.bool b5, .slice A5 n5 c5, .bool d5, .slice B5 m5 e5])
  obtain ⟨W4, eW, S⟩ := S.pack
  rw [eW]
  clear eW
  generalize W3.heap.size = P1 at *
  have r0_0 := S.c 3 0 rfl rfl
  have r0_1 := S.c 3 1 rfl rfl
  have r1_0 := S.c 2 0 rfl rfl
  have r1_1 := S.c 2 1 rfl rfl
  go_wp2_with fail
  refine ((rcode_eq (gnew_num ((S.ai 2 rfl).n4 (by omega)) ((S.ai 1 rfl).n4 (by omega))) HB.out rfl)).mono ?_
  rintro e W5 ⟨U5, rfl, hp, hk⟩
  rw [if_pos rfl] at hp
  obtain ⟨b6, A6, n6, c6, d6, B6, m6, e6, rfl⟩ := hp.open_
  replace S := (S.below hk).addQ hp
  clear hk hp
  clear r0_0 r0_1 r1_0 r1_1
  go_upto_region 7 with fail
  replace S := (S.alloc 28 [.bool b6, .slice A6 n6 c6, .bool d6, .slice B6 m6 e6])
  obtain ⟨W6, eW, S⟩ := S.pack
  rw [eW]
  clear eW
  generalize W5.heap.size = P2 at *
  have r2_0 := S.c 2 0 rfl rfl
  have r2_1 := S.c 2 1 rfl rfl
  go_wp2_with fail
  refine ((rcode_eq (fof_num n0 n1 (by omega) (by omega) (by omega) (by omega)) HN.out rfl)).mono ?_
  rintro e W7 ⟨U7, rfl, hp, hk⟩
  rw [if_pos rfl] at hp
  obtain ⟨b7, A7, n7, c7, d7, B7, m7, e7, rfl⟩ := hp.open_
  replace S := (S.below hk).addQ hp
  clear hk hp
  clear r2_0 r2_1
  go_upto_region 8 with fail
  replace S := (S.alloc 28 [.bool b7, .slice A7 n7 c7, .bool d7, .slice B7 m7 e7])
  obtain ⟨W8, eW, S⟩ := S.pack
  rw [eW]
  clear eW
  generalize W7.heap.size = P3 at *
  have r2_0 := S.c 3 0 rfl rfl
  have r2_1 := S.c 3 1 rfl rfl
  go_wp2_with fail
  refine ((rcode_eq (gof_num n0 n1 (by omega) (by omega) (by omega) (by omega)) HN.out rfl)).mono ?_
  rintro e W9 ⟨U9, rfl, hp, hk⟩
  rw [if_pos rfl] at hp
  obtain ⟨b8, A8, n8, c8, d8, B8, m8, e8, rfl⟩ := hp.open_
  replace S := (S.below hk).addQ hp
  clear hk hp
  clear r2_0 r2_1
  go_upto_region 9 with fail
  replace S := (S.alloc 28 [.bool b8, .slice A8 n8 c8, .bool d8, .slice B8 m8 e8])
  obtain ⟨W10, eW, S⟩ := S.pack
  rw [eW]
  clear eW
  generalize W9.heap.size = P4 at *
  replace S := S.addV (RatV.mk (S.ai 5 rfl) (S.ai 4 rfl) HQ.out HV.out (by omega) (by omega))
  have r0_0 := S.c 6 0 rfl rfl
  have r0_1 := S.c 6 1 rfl rfl
  have r1_0 := S.c 5 0 rfl rfl
  have r1_1 := S.c 5 1 rfl rfl
  go_upto_region 10 with fail
  replace S := (S.alloc 28 [.bool na, .slice A3 xs.length c3, .bool nb, .slice A4 ys.length c4])
  obtain ⟨W11, eW, S⟩ := S.pack
  rw [eW]
  clear eW
  generalize W10.heap.size = P5 at *
  clear r0_0 r0_1 r1_0 r1_1
  refine wp_region_steps (m := 35) rfl (by kernel_rfl) (fun iΦ vΦ wΦ => (List.getD [fun vΦ _ => vΦ = .agg #[.bool b5, .slice A5 n5 c5, .bool d5, .slice B5 m5 e5], fun vΦ _ => vΦ = .int .i64 0, fun vΦ _ => vΦ = .agg #[.bool b6, .slice A6 n6 c6, .bool d6, .slice B6 m6 e6], fun vΦ _ => vΦ = .int .i64 0, fun vΦ _ => vΦ = .bool true, fun vΦ _ => vΦ = .bool true, fun vΦ _ => vΦ = .agg #[.bool b7, .slice A7 n7 c7, .bool d7, .slice B7 m7 e7], fun vΦ _ => vΦ = .int .i64 0, fun vΦ _ => vΦ = .agg #[.bool b8, .slice A8 n8 c8, .bool d8, .slice B8 m8 e8], fun vΦ _ => vΦ = .int .i64 0, fun vΦ _ => vΦ = .bool true, fun vΦ _ => vΦ = .bool true, fun vΦ _ => vΦ = .bool true, fun vΦ _ => vΦ = .pointer (some ⟨(w.heap.size + 1 + 1), 0, none⟩), fun vΦ _ => vΦ = .int .i64 n0, fun vΦ wΦ => RatRep wΦ vΦ (((n0 : Int) : Rat)), fun vΦ _ => vΦ = .pointer (some ⟨(w.heap.size + 1 + 1), 0, none⟩), fun vΦ _ => vΦ = .int .i64 n0, fun vΦ wΦ => RatRep wΦ vΦ (((n0 : Int) : Rat)), fun vΦ _ => vΦ = .bool true, fun vΦ _ => vΦ = .bool true, fun vΦ _ => vΦ = .bool true, fun vΦ _ => vΦ = .agg #[.bool na, .slice A3 xs.length c3, .bool nb, .slice A4 ys.length c4], fun vΦ _ => vΦ = .bool bv, fun vΦ _ => vΦ = .agg #[.bool na, .slice A3 xs.length c3, .bool nb, .slice A4 ys.length c4], fun vΦ _ => vΦ = .bool bv, fun vΦ _ => vΦ = .bool true, fun vΦ _ => vΦ = .bool true, fun vΦ _ => vΦ = .bool true, fun vΦ _ => vΦ = .agg #[.bool na, .slice A3 xs.length c3, .bool nb, .slice A4 ys.length c4], fun vΦ wΦ => RatRep wΦ vΦ (rq), fun vΦ _ => vΦ = .agg #[.bool na, .slice A3 xs.length c3, .bool nb, .slice A4 ys.length c4], fun vΦ wΦ => RatRep wΦ vΦ (rq), fun vΦ _ => vΦ = .bool true, fun vΦ _ => vΦ = .bool true] iΦ (fun _ _ => True)) vΦ wΦ) [] ?_ ?_ ?_
  · intro i v w w' _ h hk
    refine stabL_get ?_ i v w w' h hk
    exact stab_cons st_e (stab_cons st_e (stab_cons st_e (stab_cons st_e (stab_cons st_e (stab_cons st_e (stab_cons st_e (stab_cons st_e (stab_cons st_e (stab_cons st_e (stab_cons st_e (stab_cons st_e (stab_cons st_e (stab_cons st_e (stab_cons st_e (stab_cons st_q (stab_cons st_e (stab_cons st_e (stab_cons st_q (stab_cons st_e (stab_cons st_e (stab_cons st_e (stab_cons st_e (stab_cons st_e (stab_cons st_e (stab_cons st_e (stab_cons st_e (stab_cons st_e (stab_cons st_e (stab_cons st_e (stab_cons st_q (stab_cons st_e (stab_cons st_q (stab_cons st_e (stab_cons st_e stab_nil))))))))))))))))))))))))))))))))))
  · intro i hi vs w3 hk3 hd
    have S3 := S.drew.below hk3
    have a0 := S3.c 5 0 rfl rfl
    have a1 := S3.c 5 1 rfl rfl
    have a2 := S3.c 4 0 rfl rfl
    have a3 := S3.c 4 1 rfl rfl
    have a4 := S3.c 4 2 rfl rfl
    have a5 := S3.c 4 3 rfl rfl
    have a6 := S3.c 3 0 rfl rfl
    have a7 := S3.c 3 1 rfl rfl
    have a8 := S3.c 3 2 rfl rfl
    have a9 := S3.c 3 3 rfl rfl
    have a10 := S3.c 2 0 rfl rfl
    have a11 := S3.c 2 1 rfl rfl
    have a12 := S3.c 2 2 rfl rfl
    have a13 := S3.c 2 3 rfl rfl
    have a14 := S3.c 1 0 rfl rfl
    have a15 := S3.c 1 1 rfl rfl
    have a16 := S3.c 1 2 rfl rfl
    have a17 := S3.c 1 3 rfl rfl
    have a18 := S3.c 0 0 rfl rfl
    have a19 := S3.c 0 1 rfl rfl
    have a20 := S3.c 0 2 rfl rfl
    have a21 := S3.c 0 3 rfl rfl
    match i, hi with
    | 0, _ =>
      refine step_val0 [] (fun vΦ _ => vΦ = .agg #[.bool b5, .slice A5 n5 c5, .bool d5, .slice B5 m5 e5]) rfl (by kernel_rfl) rfl (fun _ _ h => h) rfl fun K hK => ?_; clear hd; simp only [frD] at hK ⊢; go_simp
      exact hK _ _ (Below.refl _ _) rfl
    | 1, _ =>
      clear a0 a1 a2 a3 a4 a5 a6 a7 a8 a9 a10 a11 a12 a13 a14 a15 a16 a17 a18 a19 a20 a21
      refine step_val0 [] (fun vΦ _ => vΦ = .int .i64 0) rfl (by kernel_rfl) rfl (fun _ _ h => h) rfl fun K hK => ?_; clear hd; simp only [frD] at hK ⊢; go_simp
      exact hK _ _ (Below.refl _ _) rfl
    | 2, _ =>
      refine step_val0 [] (fun vΦ _ => vΦ = .agg #[.bool b6, .slice A6 n6 c6, .bool d6, .slice B6 m6 e6]) rfl (by kernel_rfl) rfl (fun _ _ h => h) rfl fun K hK => ?_; clear hd; simp only [frD] at hK ⊢; go_simp
      exact hK _ _ (Below.refl _ _) rfl
    | 3, _ =>
      clear a0 a1 a2 a3 a4 a5 a6 a7 a8 a9 a10 a11 a12 a13 a14 a15 a16 a17 a18 a19 a20 a21
      refine step_val0 [] (fun vΦ _ => vΦ = .int .i64 0) rfl (by kernel_rfl) rfl (fun _ _ h => h) rfl fun K hK => ?_; clear hd; simp only [frD] at hK ⊢; go_simp
      exact hK _ _ (Below.refl _ _) rfl
    | 4, _ =>
      clear a0 a1 a2 a3 a4 a5 a6 a7 a8 a9 a10 a11 a12 a13 a14 a15 a16 a17 a18 a19 a20 a21
      have qe0 : (vs 0) = .agg #[.bool b5, .slice A5 n5 c5, .bool d5, .slice B5 m5 e5] := hd 0 (cm (by kernel_rfl)); have qe1 : (vs 1) = .int .i64 0 := hd 1 (cm (by kernel_rfl)); have qe2 : (vs 2) = .agg #[.bool b6, .slice A6 n6 c6, .bool d6, .slice B6 m6 e6] := hd 2 (cm (by kernel_rfl)); have qe3 : (vs 3) = .int .i64 0 := hd 3 (cm (by kernel_rfl))
      refine step_call (F := 20) (X := .func (.func 20) #[] #[]) (A := #[(vs 0), (vs 1), (vs 2), (vs 3)]) (B := #[.agg #[.bool b5, .slice A5 n5 c5, .bool d5, .slice B5 m5 e5], .int .i64 0, .agg #[.bool b6, .slice A6 n6 c6, .bool d6, .slice B6 m6 e6], .int .i64 0]) [(0, some 57), (1, some 58), (2, some 59), (3, some 60)] (fun vΦ _ => vΦ = .bool true) rfl (by kernel_rfl) (fun _ _ h => h) rfl (wanted_none rfl) rfl rfl (by kernel_rfl) rfl (by kernel_rfl) (by rw [qe0, qe1, qe2, qe3]) Tryz.func20 (by kernel_rfl) (by kernel_rfl) ?_
      refine ((lsame_ok (S3.qi 4 rfl) (S3.qi 3 rfl) (by omega) (decide_eq_true rfl))).mono ?_; rintro e w4 ⟨rfl, hk4⟩; exact ⟨_, rfl, hk4, rfl⟩
    | 5, _ =>
      clear a0 a1 a2 a3 a4 a5 a6 a7 a8 a9 a10 a11 a12 a13 a14 a15 a16 a17 a18 a19 a20 a21
      have qe4 : (vs 4) = .bool true := hd 4 (cm (by kernel_rfl))
      refine step_val0 [(4, some 61)] (fun vΦ _ => vΦ = .bool true) rfl (by kernel_rfl) rfl (fun _ _ h => h) rfl fun K hK => ?_; clear hd; simp only [frD, qe4] at hK ⊢; go_simp
      exact hK _ _ (Below.refl _ _) rfl
    | 6, _ =>
      have qe5 : (vs 5) = .bool true := hd 5 (cm (by kernel_rfl))
      refine step_valg [(5, some 62)] (fun vΦ _ => vΦ = .agg #[.bool b7, .slice A7 n7 c7, .bool d7, .slice B7 m7 e7]) rfl (by kernel_rfl) (fun _ _ h => h) rfl (wanted_some 62 rfl (by rfl) (by kernel_rfl) qe5) fun K hK => ?_; clear hd; simp only [frD, qe5] at hK ⊢; go_simp
      exact hK _ _ (Below.refl _ _) rfl
    | 7, _ =>
      clear a0 a1 a2 a3 a4 a5 a6 a7 a8 a9 a10 a11 a12 a13 a14 a15 a16 a17 a18 a19 a20 a21
      have qe5 : (vs 5) = .bool true := hd 5 (cm (by kernel_rfl))
      refine step_valg [(5, some 62)] (fun vΦ _ => vΦ = .int .i64 0) rfl (by kernel_rfl) (fun _ _ h => h) rfl (wanted_some 62 rfl (by rfl) (by kernel_rfl) qe5) fun K hK => ?_; clear hd; simp only [frD, qe5] at hK ⊢; go_simp
      exact hK _ _ (Below.refl _ _) rfl
    | 8, _ =>
      have qe5 : (vs 5) = .bool true := hd 5 (cm (by kernel_rfl))
      refine step_valg [(5, some 62)] (fun vΦ _ => vΦ = .agg #[.bool b8, .slice A8 n8 c8, .bool d8, .slice B8 m8 e8]) rfl (by kernel_rfl) (fun _ _ h => h) rfl (wanted_some 62 rfl (by rfl) (by kernel_rfl) qe5) fun K hK => ?_; clear hd; simp only [frD, qe5] at hK ⊢; go_simp
      exact hK _ _ (Below.refl _ _) rfl
    | 9, _ =>
      clear a0 a1 a2 a3 a4 a5 a6 a7 a8 a9 a10 a11 a12 a13 a14 a15 a16 a17 a18 a19 a20 a21
      have qe5 : (vs 5) = .bool true := hd 5 (cm (by kernel_rfl))
      refine step_valg [(5, some 62)] (fun vΦ _ => vΦ = .int .i64 0) rfl (by kernel_rfl) (fun _ _ h => h) rfl (wanted_some 62 rfl (by rfl) (by kernel_rfl) qe5) fun K hK => ?_; clear hd; simp only [frD, qe5] at hK ⊢; go_simp
      exact hK _ _ (Below.refl _ _) rfl
    | 10, _ =>
      clear a0 a1 a2 a3 a4 a5 a6 a7 a8 a9 a10 a11 a12 a13 a14 a15 a16 a17 a18 a19 a20 a21
      have qe5 : (vs 5) = .bool true := hd 5 (cm (by kernel_rfl)); have qe6 : (vs 6) = .agg #[.bool b7, .slice A7 n7 c7, .bool d7, .slice B7 m7 e7] := hd 6 (cm (by kernel_rfl)); have qe7 : (vs 7) = .int .i64 0 := hd 7 (cm (by kernel_rfl)); have qe8 : (vs 8) = .agg #[.bool b8, .slice A8 n8 c8, .bool d8, .slice B8 m8 e8] := hd 8 (cm (by kernel_rfl)); have qe9 : (vs 9) = .int .i64 0 := hd 9 (cm (by kernel_rfl))
      refine step_call (F := 20) (X := .func (.func 20) #[] #[]) (A := #[(vs 6), (vs 7), (vs 8), (vs 9)]) (B := #[.agg #[.bool b7, .slice A7 n7 c7, .bool d7, .slice B7 m7 e7], .int .i64 0, .agg #[.bool b8, .slice A8 n8 c8, .bool d8, .slice B8 m8 e8], .int .i64 0]) [(5, some 62), (6, some 63), (7, some 64), (8, some 65), (9, some 66)] (fun vΦ _ => vΦ = .bool true) rfl (by kernel_rfl) (fun _ _ h => h) rfl (wanted_some 62 rfl (by rfl) (by kernel_rfl) qe5) rfl rfl (by kernel_rfl) rfl (by kernel_rfl) (by rw [qe6, qe7, qe8, qe9]) Tryz.func20 (by kernel_rfl) (by kernel_rfl) ?_
      refine ((lsame_ok (S3.qi 2 rfl) (S3.qi 1 rfl) (by omega) (decide_eq_true rfl))).mono ?_; rintro e w4 ⟨rfl, hk4⟩; exact ⟨_, rfl, hk4, rfl⟩
    | 11, _ =>
      clear a0 a1 a2 a3 a4 a5 a6 a7 a8 a9 a10 a11 a12 a13 a14 a15 a16 a17 a18 a19 a20 a21
      have qe5 : (vs 5) = .bool true := hd 5 (cm (by kernel_rfl)); have qe10 : (vs 10) = .bool true := hd 10 (cm (by kernel_rfl))
      refine step_val0 [(5, some 62), (10, some 67)] (fun vΦ _ => vΦ = .bool true) rfl (by kernel_rfl) rfl (fun _ _ h => h) rfl fun K hK => ?_; clear hd; simp only [frD, qe5, qe10] at hK ⊢; go_simp
      exact hK _ _ (Below.refl _ _) rfl
    | 12, _ =>
      clear a0 a1 a2 a3 a4 a5 a6 a7 a8 a9 a10 a11 a12 a13 a14 a15 a16 a17 a18 a19 a20 a21
      have qe10 : (vs 10) = .bool true := hd 10 (cm (by kernel_rfl)); have qe11 : (vs 11) = .bool true := hd 11 (cm (by kernel_rfl))
      refine step_val0 [(10, some 67), (11, some 68)] (fun vΦ _ => vΦ = .bool true) rfl (by kernel_rfl) rfl (fun _ _ h => h) rfl fun K hK => ?_; clear hd; simp only [frD, qe10, qe11] at hK ⊢; go_simp
      exact hK _ _ (Below.refl _ _) rfl
    | 13, _ =>
      clear a0 a1 a2 a3 a4 a5 a6 a7 a8 a9 a10 a11 a12 a13 a14 a15 a16 a17 a18 a19 a20 a21
      have qe12 : (vs 12) = .bool true := hd 12 (cm (by kernel_rfl))
      refine step_valg [(12, some 69)] (fun vΦ _ => vΦ = .pointer (some ⟨(w.heap.size + 1 + 1), 0, none⟩)) rfl (by kernel_rfl) (fun _ _ h => h) rfl (wanted_some 69 rfl (by rfl) (by kernel_rfl) qe12) fun K hK => ?_; clear hd; simp only [frD, qe12] at hK ⊢; go_simp
      exact hK _ _ (Below.refl _ _) rfl
    | 14, _ =>
      have qe12 : (vs 12) = .bool true := hd 12 (cm (by kernel_rfl)); have qe13 : (vs 13) = .pointer (some ⟨(w.heap.size + 1 + 1), 0, none⟩) := hd 13 (cm (by kernel_rfl))
      refine step_valg [(12, some 69), (13, some 70)] (fun vΦ _ => vΦ = .int .i64 n0) rfl (by kernel_rfl) (fun _ _ h => h) rfl (wanted_some 69 rfl (by rfl) (by kernel_rfl) qe12) fun K hK => ?_; clear hd; simp only [frD, qe12, qe13] at hK ⊢; go_simp
      exact hK _ _ (Below.refl _ _) rfl
    | 15, _ =>
      clear a0 a1 a2 a3 a4 a5 a6 a7 a8 a9 a10 a11 a12 a13 a14 a15 a16 a17 a18 a19 a20 a21
      have qe12 : (vs 12) = .bool true := hd 12 (cm (by kernel_rfl)); have qe14 : (vs 14) = .int .i64 n0 := hd 14 (cm (by kernel_rfl))
      refine step_call (F := 22) (X := .func (.func 22) #[] #[]) (A := #[(vs 14)]) (B := #[.int .i64 n0]) [(12, some 69), (14, some 71)] (fun vΦ wΦ => RatRep wΦ vΦ (((n0 : Int) : Rat))) rfl (by kernel_rfl) (fun _ _ h => h) rfl (wanted_some 69 rfl (by rfl) (by kernel_rfl) qe12) rfl rfl (by kernel_rfl) rfl (by kernel_rfl) (by rw [qe14]) Tryz.func22 (by kernel_rfl) (by kernel_rfl) ?_
      refine ((whole_num n0 (by omega) (by omega))).mono ?_; rintro e w4 ⟨U, rfl, hr, hk4⟩; exact ⟨_, rfl, hk4, hr⟩
    | 16, _ =>
      clear a0 a1 a2 a3 a4 a5 a6 a7 a8 a9 a10 a11 a12 a13 a14 a15 a16 a17 a18 a19 a20 a21
      have qe12 : (vs 12) = .bool true := hd 12 (cm (by kernel_rfl))
      refine step_valg [(12, some 69)] (fun vΦ _ => vΦ = .pointer (some ⟨(w.heap.size + 1 + 1), 0, none⟩)) rfl (by kernel_rfl) (fun _ _ h => h) rfl (wanted_some 69 rfl (by rfl) (by kernel_rfl) qe12) fun K hK => ?_; clear hd; simp only [frD, qe12] at hK ⊢; go_simp
      exact hK _ _ (Below.refl _ _) rfl
    | 17, _ =>
      have qe12 : (vs 12) = .bool true := hd 12 (cm (by kernel_rfl)); have qe16 : (vs 16) = .pointer (some ⟨(w.heap.size + 1 + 1), 0, none⟩) := hd 16 (cm (by kernel_rfl))
      refine step_valg [(12, some 69), (16, some 73)] (fun vΦ _ => vΦ = .int .i64 n0) rfl (by kernel_rfl) (fun _ _ h => h) rfl (wanted_some 69 rfl (by rfl) (by kernel_rfl) qe12) fun K hK => ?_; clear hd; simp only [frD, qe12, qe16] at hK ⊢; go_simp
      exact hK _ _ (Below.refl _ _) rfl
    | 18, _ =>
      clear a0 a1 a2 a3 a4 a5 a6 a7 a8 a9 a10 a11 a12 a13 a14 a15 a16 a17 a18 a19 a20 a21
      have qe12 : (vs 12) = .bool true := hd 12 (cm (by kernel_rfl)); have h15 : RatRep w3 (vs 15) (((n0 : Int) : Rat)) := hd 15 (cm (by kernel_rfl)); have qe17 : (vs 17) = .int .i64 n0 := hd 17 (cm (by kernel_rfl))
      refine step_call (F := 23) (X := .func (.func 23) #[] #[]) (A := #[(vs 17)]) (B := #[.int .i64 n0]) [(12, some 69), (15, some 72), (17, some 74)] (fun vΦ wΦ => RatRep wΦ vΦ (((n0 : Int) : Rat))) rfl (by kernel_rfl) (fun _ _ h => h) rfl (wanted_some 69 rfl (by rfl) (by kernel_rfl) qe12) rfl rfl (by kernel_rfl) rfl (by kernel_rfl) (by rw [qe17]) Tryz.func23 (by kernel_rfl) (by kernel_rfl) ?_
      refine ((gwhole_num n0 (by omega) (by omega))).mono ?_; rintro e w4 ⟨U, rfl, hr, hk4⟩; exact ⟨_, rfl, hk4, hr⟩
    | 19, _ =>
      clear a0 a1 a2 a3 a4 a5 a6 a7 a8 a9 a10 a11 a12 a13 a14 a15 a16 a17 a18 a19 a20 a21
      have qe12 : (vs 12) = .bool true := hd 12 (cm (by kernel_rfl)); have h15 : RatRep w3 (vs 15) (((n0 : Int) : Rat)) := hd 15 (cm (by kernel_rfl)); have h18 : RatRep w3 (vs 18) (((n0 : Int) : Rat)) := hd 18 (cm (by kernel_rfl))
      refine step_call (F := 21) (X := .func (.func 21) #[] #[]) (A := #[(vs 15), (vs 18)]) (B := #[(vs 15), (vs 18)]) [(12, some 69), (15, some 72), (18, some 75)] (fun vΦ _ => vΦ = .bool true) rfl (by kernel_rfl) (fun _ _ h => h) rfl (wanted_some 69 rfl (by rfl) (by kernel_rfl) qe12) rfl rfl (by kernel_rfl) rfl (by kernel_rfl) rfl Tryz.func21 (by kernel_rfl) (by kernel_rfl) ?_
      refine ((gsame_s (b := true) h15 h18 (by omega) (decide_eq_true rfl))).mono ?_; rintro e w4 ⟨rfl, hk4⟩; exact ⟨_, rfl, hk4, rfl⟩
    | 20, _ =>
      clear a0 a1 a2 a3 a4 a5 a6 a7 a8 a9 a10 a11 a12 a13 a14 a15 a16 a17 a18 a19 a20 a21
      have qe12 : (vs 12) = .bool true := hd 12 (cm (by kernel_rfl)); have qe19 : (vs 19) = .bool true := hd 19 (cm (by kernel_rfl))
      refine step_val0 [(12, some 69), (19, some 76)] (fun vΦ _ => vΦ = .bool true) rfl (by kernel_rfl) rfl (fun _ _ h => h) rfl fun K hK => ?_; clear hd; simp only [frD, qe12, qe19] at hK ⊢; go_simp
      exact hK _ _ (Below.refl _ _) rfl
    | 21, _ =>
      clear a0 a1 a2 a3 a4 a5 a6 a7 a8 a9 a10 a11 a12 a13 a14 a15 a16 a17 a18 a19 a20 a21
      have qe19 : (vs 19) = .bool true := hd 19 (cm (by kernel_rfl)); have qe20 : (vs 20) = .bool true := hd 20 (cm (by kernel_rfl))
      refine step_val0 [(19, some 76), (20, some 77)] (fun vΦ _ => vΦ = .bool true) rfl (by kernel_rfl) rfl (fun _ _ h => h) rfl fun K hK => ?_; clear hd; simp only [frD, qe19, qe20] at hK ⊢; go_simp
      exact hK _ _ (Below.refl _ _) rfl
    | 22, _ =>
      have qe21 : (vs 21) = .bool true := hd 21 (cm (by kernel_rfl))
      refine step_valg [(21, some 78)] (fun vΦ _ => vΦ = .agg #[.bool na, .slice A3 xs.length c3, .bool nb, .slice A4 ys.length c4]) rfl (by kernel_rfl) (fun _ _ h => h) rfl (wanted_some 78 rfl (by rfl) (by kernel_rfl) qe21) fun K hK => ?_; clear hd; simp only [frD, qe21] at hK ⊢; go_simp
      exact hK _ _ (Below.refl _ _) rfl
    | 23, _ =>
      clear a0 a1 a2 a3 a4 a5 a6 a7 a8 a9 a10 a11 a12 a13 a14 a15 a16 a17 a18 a19 a20 a21
      have qe21 : (vs 21) = .bool true := hd 21 (cm (by kernel_rfl)); have qe22 : (vs 22) = .agg #[.bool na, .slice A3 xs.length c3, .bool nb, .slice A4 ys.length c4] := hd 22 (cm (by kernel_rfl))
      refine step_call (F := 24) (X := .func (.func 24) #[] #[]) (A := #[(vs 22)]) (B := #[.agg #[.bool na, .slice A3 xs.length c3, .bool nb, .slice A4 ys.length c4]]) [(21, some 78), (22, some 79)] (fun vΦ _ => vΦ = .bool bv) rfl (by kernel_rfl) (fun _ _ h => h) rfl (wanted_some 78 rfl (by rfl) (by kernel_rfl) qe21) rfl rfl (by kernel_rfl) rfl (by kernel_rfl) (by rw [qe22]) Tryz.func24 (by kernel_rfl) (by kernel_rfl) ?_
      refine ((fvalid_v (S3.vi 0 rfl))).mono ?_; rintro e w4 ⟨rfl, hk4⟩; exact ⟨_, rfl, hk4, rfl⟩
    | 24, _ =>
      have qe21 : (vs 21) = .bool true := hd 21 (cm (by kernel_rfl))
      refine step_valg [(21, some 78)] (fun vΦ _ => vΦ = .agg #[.bool na, .slice A3 xs.length c3, .bool nb, .slice A4 ys.length c4]) rfl (by kernel_rfl) (fun _ _ h => h) rfl (wanted_some 78 rfl (by rfl) (by kernel_rfl) qe21) fun K hK => ?_; clear hd; simp only [frD, qe21] at hK ⊢; go_simp
      exact hK _ _ (Below.refl _ _) rfl
    | 25, _ =>
      clear a0 a1 a2 a3 a4 a5 a6 a7 a8 a9 a10 a11 a12 a13 a14 a15 a16 a17 a18 a19 a20 a21
      have qe21 : (vs 21) = .bool true := hd 21 (cm (by kernel_rfl)); have qe23 : (vs 23) = .bool bv := hd 23 (cm (by kernel_rfl)); have qe24 : (vs 24) = .agg #[.bool na, .slice A3 xs.length c3, .bool nb, .slice A4 ys.length c4] := hd 24 (cm (by kernel_rfl))
      refine step_call (F := 25) (X := .func (.func 25) #[] #[]) (A := #[(vs 24)]) (B := #[.agg #[.bool na, .slice A3 xs.length c3, .bool nb, .slice A4 ys.length c4]]) [(21, some 78), (23, some 80), (24, some 81)] (fun vΦ _ => vΦ = .bool bv) rfl (by kernel_rfl) (fun _ _ h => h) rfl (wanted_some 78 rfl (by rfl) (by kernel_rfl) qe21) rfl rfl (by kernel_rfl) rfl (by kernel_rfl) (by rw [qe24]) Tryz.func25 (by kernel_rfl) (by kernel_rfl) ?_
      refine ((gvalid_v (S3.vi 0 rfl))).mono ?_; rintro e w4 ⟨rfl, hk4⟩; exact ⟨_, rfl, hk4, rfl⟩
    | 26, _ =>
      clear a0 a1 a2 a3 a4 a5 a6 a7 a8 a9 a10 a11 a12 a13 a14 a15 a16 a17 a18 a19 a20 a21
      have qe21 : (vs 21) = .bool true := hd 21 (cm (by kernel_rfl)); have qe23 : (vs 23) = .bool bv := hd 23 (cm (by kernel_rfl)); have qe25 : (vs 25) = .bool bv := hd 25 (cm (by kernel_rfl))
      refine step_valg [(21, some 78), (23, some 80), (25, some 82)] (fun vΦ _ => vΦ = .bool true) rfl (by kernel_rfl) (fun _ _ h => h) rfl (wanted_some 78 rfl (by rfl) (by kernel_rfl) qe21) fun K hK => ?_; clear hd; simp only [frD, qe21, qe23, qe25] at hK ⊢; go_simp
      exact hK _ _ (Below.refl _ _) rfl
    | 27, _ =>
      clear a0 a1 a2 a3 a4 a5 a6 a7 a8 a9 a10 a11 a12 a13 a14 a15 a16 a17 a18 a19 a20 a21
      have qe21 : (vs 21) = .bool true := hd 21 (cm (by kernel_rfl)); have qe26 : (vs 26) = .bool true := hd 26 (cm (by kernel_rfl))
      refine step_val0 [(21, some 78), (26, some 83)] (fun vΦ _ => vΦ = .bool true) rfl (by kernel_rfl) rfl (fun _ _ h => h) rfl fun K hK => ?_; clear hd; simp only [frD, qe21, qe26] at hK ⊢; go_simp
      exact hK _ _ (Below.refl _ _) rfl
    | 28, _ =>
      clear a0 a1 a2 a3 a4 a5 a6 a7 a8 a9 a10 a11 a12 a13 a14 a15 a16 a17 a18 a19 a20 a21
      have qe25 : (vs 25) = .bool bv := hd 25 (cm (by kernel_rfl)); have qe27 : (vs 27) = .bool true := hd 27 (cm (by kernel_rfl))
      refine step_val0 [(25, some 82), (27, some 84)] (fun vΦ _ => vΦ = .bool true) rfl (by kernel_rfl) rfl (fun _ _ h => h) rfl fun K hK => ?_; clear hd; simp only [frD, qe25, qe27] at hK ⊢; go_simp
      exact hK _ _ (Below.refl _ _) rfl
    | 29, _ =>
      have qe28 : (vs 28) = .bool true := hd 28 (cm (by kernel_rfl))
      refine step_valg [(28, some 85)] (fun vΦ _ => vΦ = .agg #[.bool na, .slice A3 xs.length c3, .bool nb, .slice A4 ys.length c4]) rfl (by kernel_rfl) (fun _ _ h => h) rfl (wanted_some 85 rfl (by rfl) (by kernel_rfl) qe28) fun K hK => ?_; clear hd; simp only [frD, qe28] at hK ⊢; go_simp
      exact hK _ _ (Below.refl _ _) rfl
    | 30, _ =>
      clear a0 a1 a2 a3 a4 a5 a6 a7 a8 a9 a10 a11 a12 a13 a14 a15 a16 a17 a18 a19 a20 a21
      have qe28 : (vs 28) = .bool true := hd 28 (cm (by kernel_rfl)); have qe29 : (vs 29) = .agg #[.bool na, .slice A3 xs.length c3, .bool nb, .slice A4 ys.length c4] := hd 29 (cm (by kernel_rfl))
      refine step_call (F := 26) (X := .func (.func 26) #[] #[]) (A := #[(vs 29)]) (B := #[.agg #[.bool na, .slice A3 xs.length c3, .bool nb, .slice A4 ys.length c4]]) [(28, some 85), (29, some 86)] (fun vΦ wΦ => RatRep wΦ vΦ (rq)) rfl (by kernel_rfl) (fun _ _ h => h) rfl (wanted_some 85 rfl (by rfl) (by kernel_rfl) qe28) rfl rfl (by kernel_rfl) rfl (by kernel_rfl) (by rw [qe29]) Tryz.func26 (by kernel_rfl) (by kernel_rfl) ?_
      refine ((fvalue_num ((S3.vi 0 rfl).num))).mono ?_; rintro e w4 ⟨U, rfl, hr, hk4⟩; exact ⟨_, rfl, hk4, hr⟩
    | 31, _ =>
      have qe28 : (vs 28) = .bool true := hd 28 (cm (by kernel_rfl))
      refine step_valg [(28, some 85)] (fun vΦ _ => vΦ = .agg #[.bool na, .slice A3 xs.length c3, .bool nb, .slice A4 ys.length c4]) rfl (by kernel_rfl) (fun _ _ h => h) rfl (wanted_some 85 rfl (by rfl) (by kernel_rfl) qe28) fun K hK => ?_; clear hd; simp only [frD, qe28] at hK ⊢; go_simp
      exact hK _ _ (Below.refl _ _) rfl
    | 32, _ =>
      clear a0 a1 a2 a3 a4 a5 a6 a7 a8 a9 a10 a11 a12 a13 a14 a15 a16 a17 a18 a19 a20 a21
      have qe28 : (vs 28) = .bool true := hd 28 (cm (by kernel_rfl)); have h30 : RatRep w3 (vs 30) (rq) := hd 30 (cm (by kernel_rfl)); have qe31 : (vs 31) = .agg #[.bool na, .slice A3 xs.length c3, .bool nb, .slice A4 ys.length c4] := hd 31 (cm (by kernel_rfl))
      refine step_call (F := 27) (X := .func (.func 27) #[] #[]) (A := #[(vs 31)]) (B := #[.agg #[.bool na, .slice A3 xs.length c3, .bool nb, .slice A4 ys.length c4]]) [(28, some 85), (30, some 87), (31, some 88)] (fun vΦ wΦ => RatRep wΦ vΦ (rq)) rfl (by kernel_rfl) (fun _ _ h => h) rfl (wanted_some 85 rfl (by rfl) (by kernel_rfl) qe28) rfl rfl (by kernel_rfl) rfl (by kernel_rfl) (by rw [qe31]) Tryz.func27 (by kernel_rfl) (by kernel_rfl) ?_
      refine ((gvalue_num ((S3.vi 0 rfl).num))).mono ?_; rintro e w4 ⟨U, rfl, hr, hk4⟩; exact ⟨_, rfl, hk4, hr⟩
    | 33, _ =>
      clear a0 a1 a2 a3 a4 a5 a6 a7 a8 a9 a10 a11 a12 a13 a14 a15 a16 a17 a18 a19 a20 a21
      have qe28 : (vs 28) = .bool true := hd 28 (cm (by kernel_rfl)); have h30 : RatRep w3 (vs 30) (rq) := hd 30 (cm (by kernel_rfl)); have h32 : RatRep w3 (vs 32) (rq) := hd 32 (cm (by kernel_rfl))
      refine step_call (F := 21) (X := .func (.func 21) #[] #[]) (A := #[(vs 30), (vs 32)]) (B := #[(vs 30), (vs 32)]) [(28, some 85), (30, some 87), (32, some 89)] (fun vΦ _ => vΦ = .bool true) rfl (by kernel_rfl) (fun _ _ h => h) rfl (wanted_some 85 rfl (by rfl) (by kernel_rfl) qe28) rfl rfl (by kernel_rfl) rfl (by kernel_rfl) rfl Tryz.func21 (by kernel_rfl) (by kernel_rfl) ?_
      refine ((gsame_s (b := true) h30 h32 (by omega) (decide_eq_true rfl))).mono ?_; rintro e w4 ⟨rfl, hk4⟩; exact ⟨_, rfl, hk4, rfl⟩
    | 34, _ =>
      clear a0 a1 a2 a3 a4 a5 a6 a7 a8 a9 a10 a11 a12 a13 a14 a15 a16 a17 a18 a19 a20 a21
      have qe28 : (vs 28) = .bool true := hd 28 (cm (by kernel_rfl)); have qe33 : (vs 33) = .bool true := hd 33 (cm (by kernel_rfl))
      refine step_val0 [(28, some 85), (33, some 90)] (fun vΦ _ => vΦ = .bool true) rfl (by kernel_rfl) rfl (fun _ _ h => h) rfl fun K hK => ?_; clear hd; simp only [frD, qe28, qe33] at hK ⊢; go_simp
      exact hK _ _ (Below.refl _ _) rfl
    | i + 35, hi => exact absurd hi (by omega)
  · intro vs W12 hk3 hΦ _
    simp only [List.drop_succ_cons, List.drop_zero]
    rw [fr_frD, show (List.range 35).map _ = [(0, some 57), (1, some 58), (2, some 59), (3, some 60), (4, some 61), (5, some 62), (6, some 63), (7, some 64), (8, some 65), (9, some 66), (10, some 67), (11, some 68), (12, some 69), (13, some 70), (14, some 71), (15, some 72), (16, some 73), (17, some 74), (18, some 75), (19, some 76), (20, some 77), (21, some 78), (22, some 79), (23, some 80), (24, some 81), (25, some 82), (26, some 83), (27, some 84), (28, some 85), (29, some 86), (30, some 87), (31, some 88), (32, some 89), (33, some 90), (34, some 91)] by kernel_rfl]
    have pa0 : (vs 0) = .agg #[.bool b5, .slice A5 n5 c5, .bool d5, .slice B5 m5 e5] := hΦ 0 (by decide)
    have pa1 : (vs 1) = .int .i64 0 := hΦ 1 (by decide)
    have pa2 : (vs 2) = .agg #[.bool b6, .slice A6 n6 c6, .bool d6, .slice B6 m6 e6] := hΦ 2 (by decide)
    have pa3 : (vs 3) = .int .i64 0 := hΦ 3 (by decide)
    have pa4 : (vs 4) = .bool true := hΦ 4 (by decide)
    have pa5 : (vs 5) = .bool true := hΦ 5 (by decide)
    have pa6 : (vs 6) = .agg #[.bool b7, .slice A7 n7 c7, .bool d7, .slice B7 m7 e7] := hΦ 6 (by decide)
    have pa7 : (vs 7) = .int .i64 0 := hΦ 7 (by decide)
    have pa8 : (vs 8) = .agg #[.bool b8, .slice A8 n8 c8, .bool d8, .slice B8 m8 e8] := hΦ 8 (by decide)
    have pa9 : (vs 9) = .int .i64 0 := hΦ 9 (by decide)
    have pa10 : (vs 10) = .bool true := hΦ 10 (by decide)
    have pa11 : (vs 11) = .bool true := hΦ 11 (by decide)
    have pa12 : (vs 12) = .bool true := hΦ 12 (by decide)
    have pa13 : (vs 13) = .pointer (some ⟨(w.heap.size + 1 + 1), 0, none⟩) := hΦ 13 (by decide)
    have pa14 : (vs 14) = .int .i64 n0 := hΦ 14 (by decide)
    have pa15 : RatRep W12 (vs 15) (((n0 : Int) : Rat)) := hΦ 15 (by decide)
    have pa16 : (vs 16) = .pointer (some ⟨(w.heap.size + 1 + 1), 0, none⟩) := hΦ 16 (by decide)
    have pa17 : (vs 17) = .int .i64 n0 := hΦ 17 (by decide)
    have pa18 : RatRep W12 (vs 18) (((n0 : Int) : Rat)) := hΦ 18 (by decide)
    have pa19 : (vs 19) = .bool true := hΦ 19 (by decide)
    have pa20 : (vs 20) = .bool true := hΦ 20 (by decide)
    have pa21 : (vs 21) = .bool true := hΦ 21 (by decide)
    have pa22 : (vs 22) = .agg #[.bool na, .slice A3 xs.length c3, .bool nb, .slice A4 ys.length c4] := hΦ 22 (by decide)
    have pa23 : (vs 23) = .bool bv := hΦ 23 (by decide)
    have pa24 : (vs 24) = .agg #[.bool na, .slice A3 xs.length c3, .bool nb, .slice A4 ys.length c4] := hΦ 24 (by decide)
    have pa25 : (vs 25) = .bool bv := hΦ 25 (by decide)
    have pa26 : (vs 26) = .bool true := hΦ 26 (by decide)
    have pa27 : (vs 27) = .bool true := hΦ 27 (by decide)
    have pa28 : (vs 28) = .bool true := hΦ 28 (by decide)
    have pa29 : (vs 29) = .agg #[.bool na, .slice A3 xs.length c3, .bool nb, .slice A4 ys.length c4] := hΦ 29 (by decide)
    have pa30 : RatRep W12 (vs 30) (rq) := hΦ 30 (by decide)
    have pa31 : (vs 31) = .agg #[.bool na, .slice A3 xs.length c3, .bool nb, .slice A4 ys.length c4] := hΦ 31 (by decide)
    have pa32 : RatRep W12 (vs 32) (rq) := hΦ 32 (by decide)
    have pa33 : (vs 33) = .bool true := hΦ 33 (by decide)
    have pa34 : (vs 34) = .bool true := hΦ 34 (by decide)
    clear hΦ
    simp only [frD, pa0, pa1, pa2, pa3, pa4, pa5, pa6, pa7, pa8, pa9, pa10, pa11, pa12, pa13, pa14, pa16, pa17, pa19, pa20, pa21, pa22, pa23, pa24, pa25, pa26, pa27, pa28, pa29, pa31, pa33, pa34]
    simp only [Act.put, List.setIfInBounds_toArray, List.set_cons_zero, List.set_cons_succ]
    clear pa0 pa1 pa2 pa3 pa4 pa5 pa6 pa7 pa8 pa9 pa10 pa11 pa12 pa13 pa14 pa16 pa17 pa19 pa20 pa21 pa22 pa23 pa24 pa25 pa26 pa27 pa28 pa29 pa31 pa33 pa34
    generalize vs 15 = Upa15 at pa15 ⊢
    generalize vs 18 = Upa18 at pa18 ⊢
    generalize vs 30 = Upa30 at pa30 ⊢
    generalize vs 32 = Upa32 at pa32 ⊢
    replace S := S.drew.below hk3
    clear pa15
    clear pa18
    clear pa30
    clear pa32
    clear hk3
    go_wp2
    go_ret
    exact ⟨rfl, S.k⟩
end Go.Proofs.YtmochehkkadjnaaGreatDoor
