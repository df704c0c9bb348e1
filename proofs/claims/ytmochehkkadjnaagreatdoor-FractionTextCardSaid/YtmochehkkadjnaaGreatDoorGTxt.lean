/- The walk of the reference's Text. -/
import Derived.Test.YtmochehkkadjnaaGreatDoorRTextL
import Derived.Test.YtmochehkkadjnaaGreatDoorMgFScale
import Derived.Test.YtmochehkkadjnaaGreatDoorGRest
import Derived.Test.YtmochehkkadjnaaGreatDoorMgStab
namespace Go.Proofs.YtmochehkkadjnaaGreatDoor
open Go.RowKit Go.Shelf

theorem den_one {d : Nat} {s : Int} (h : s = 0) (e : ((d : Int) - 1).sign = s) : d = 1 := by
  rw [h] at e
  have := Int.sign_eq_zero_iff_zero.1 e
  omega
set_option maxRecDepth 100000 in
set_option maxHeartbeats 1000000 in
theorem gtext_num {w : World} {V1 : Value} {x : Rat} {T1 T2 T3 T4 : List UInt8} (h1 : RatNum w V1 x) (hx : szR x ≤ 20000) (q1 : textL x.num = T1) (q2 : textL (x.den : Int) = T2) (q3 : T1 ++ [47] = T3) (q4 : T3 ++ T2 = T4) : Calls Tryz.prog 77 #[V1] w (fun e w' => e = .returned (.string ⟨(fracT x).toArray⟩) ∧ Keeps w w') := by
  obtain ⟨b3, A3, n3, c3, d3, B3, m3, e3, rfl⟩ := h1.open_
  have z0 := h1.sz
  have HF1 := Lib.hid (show x.den = 1 → fracT x = T1 from fun h => by unfold fracT; rw [if_pos h, q1, List.append_nil])
  have HF2 := Lib.hid (show x.den ≠ 1 → fracT x = T4 from fun h => by unfold fracT; rw [if_neg h, ← q4, ← q3, q1, q2, List.append_assoc]; rfl)
  have E3 : ByteArray.mk T1.toArray ++ ByteArray.mk #[47] = ByteArray.mk T3.toArray := by rw [← q3]; exact cat_str T1 [47]
  have E4 : ByteArray.mk T3.toArray ++ ByteArray.mk T2.toArray = ByteArray.mk T4.toArray := by rw [← q4]; exact cat_str T3 T2
  have v1 := textL_le x.num
  have v2 := textL_le (x.den : Int)
  rw [q1] at v1
  rw [q2] at v2
  have v3 := szR_num hx
  have v4 := szR_den hx
  have v5 : (T1.length : Int) ≤ 200000 := by omega
  have v6 : (T2.length : Int) ≤ 200000 := by omega
  have v7 : (T3.length : Int) ≤ 200001 := by rw [← q3, List.length_append, List.length_singleton]; omega
  have v8 : ¬ 9223372036854775807 < T1.length + 1 := by omega
  have v9 := lenI_one
  have HT1 := Lib.hid q1
  have HT2 := Lib.hid q2
  clear q1 q2 q3 q4 v1 v2
  obtain ⟨s1, hs1⟩ : ∃ s, ((((x).den : Int)) - 1).sign = s := ⟨_, rfl⟩
  have HS1 := Lib.hid hs1
  clear hs1
  have S := ((St.start w).addR h1)
  clear h1
  go_enter Tryz.func77, Tryz.ntmps77
  go_upto_region 1 with fail
  replace S := (S.alloc 28 [.bool b3, .slice A3 n3 c3, .bool d3, .slice B3 m3 e3])
  obtain ⟨W1, eW, S⟩ := S.pack
  rw [eW]
  clear eW
  have r0_0 := S.c 0 0 rfl rfl
  have r0_1 := S.c 0 1 rfl rfl
  have r0_2 := S.c 0 2 rfl rfl
  have r0_3 := S.c 0 3 rfl rfl
  go_wp2_with fail
  refine ((gvalue_num (S.ri 0 rfl))).mono ?_
  rintro e W2 ⟨U2, rfl, hp, hk⟩
  obtain ⟨b4, A4, n4, c4, d4, B4, m4, e4, rfl⟩ := hp.open_
  replace S := (S.below hk).addQ hp
  clear hk hp
  clear r0_0 r0_1 r0_2 r0_3
  go_upto_region 2 with fail
  replace S := (S.alloc 28 [.bool b4, .slice A4 n4 c4, .bool d4, .slice B4 m4 e4])
  obtain ⟨W3, eW, S⟩ := S.pack
  rw [eW]
  clear eW
  generalize W2.heap.size = P1 at *
  have r1_0 := S.c 0 0 rfl rfl
  have r1_1 := S.c 0 1 rfl rfl
  have r1_2 := S.c 0 2 rfl rfl
  have r1_3 := S.c 0 3 rfl rfl
  go_wp2_with fail
  refine ((rtext_l ((S.qi 0 rfl).nn (by omega)) HT1.out)).mono ?_
  rintro e W4 ⟨rfl, hk⟩
  replace S := S.below hk
  clear hk
  clear r1_0 r1_1 r1_2 r1_3
  go_upto_region 3 with fail
  refine wp_region_steps (m := 4) rfl (by kernel_rfl) (fun iΦ vΦ wΦ => (List.getD [fun vΦ _ => vΦ = .pointer (some ⟨P1, 2, none⟩), fun vΦ _ => vΦ = .agg #[.bool d4, .slice B4 m4 e4], fun vΦ wΦ => IntRep wΦ vΦ (1), fun vΦ _ => vΦ = .int .i64 s1] iΦ (fun _ _ => True)) vΦ wΦ) [] ?_ ?_ ?_
  · intro i v w w' _ h hk
    refine stabL_get ?_ i v w w' h hk
    exact stab_cons st_e (stab_cons st_e (stab_cons st_i (stab_cons st_e stab_nil)))
  · intro i hi vs w3 hk3 hd
    have S3 := S.drew.below hk3
    have a0 := S3.c 0 0 rfl rfl
    have a1 := S3.c 0 1 rfl rfl
    have a2 := S3.c 0 2 rfl rfl
    have a3 := S3.c 0 3 rfl rfl
    match i, hi with
    | 0, _ =>
      refine step_val0 [] (fun vΦ _ => vΦ = .pointer (some ⟨P1, 2, none⟩)) rfl (by kernel_rfl) rfl (fun _ _ h => h) rfl fun K hK => ?_; clear hd; simp only [frD] at hK ⊢; go_simp
      exact hK _ _ (Below.refl _ _) rfl
    | 1, _ =>
      have qe0 : (vs 0) = .pointer (some ⟨P1, 2, none⟩) := hd 0 (cm (by kernel_rfl))
      refine step_val0 [(0, some 10)] (fun vΦ _ => vΦ = .agg #[.bool d4, .slice B4 m4 e4]) rfl (by kernel_rfl) rfl (fun _ _ h => h) rfl fun K hK => ?_; clear hd; simp only [frD, qe0] at hK ⊢; go_simp
      exact hK _ _ (Below.refl _ _) rfl
    | 2, _ =>
      refine step_call (F := 85) (X := .func (.func 85) #[] #[]) (A := #[.int .i64 1]) (B := #[.int .i64 1]) [] (fun vΦ wΦ => IntRep wΦ vΦ (1)) rfl (by kernel_rfl) (fun _ _ h => h) rfl (wanted_none rfl) rfl rfl (by kernel_rfl) rfl (by kernel_rfl) rfl Tryz.func85 (by kernel_rfl) (by kernel_rfl) ?_
      refine ((whole_int 1 (by omega) (by omega))).mono ?_; rintro e w4 ⟨U, rfl, hr, hk4⟩; exact ⟨_, rfl, hk4, hr⟩
    | 3, _ =>
      have qe1 : (vs 1) = .agg #[.bool d4, .slice B4 m4 e4] := hd 1 (cm (by kernel_rfl)); have h2 : IntRep w3 (vs 2) (1) := hd 2 (cm (by kernel_rfl))
      refine step_call (F := 44) (X := .func (.func 44) #[] #[]) (A := #[(vs 1), (vs 2)]) (B := #[.agg #[.bool d4, .slice B4 m4 e4], (vs 2)]) [(1, some 11), (2, some 12)] (fun vΦ _ => vΦ = .int .i64 s1) rfl (by kernel_rfl) (fun _ _ h => h) rfl (wanted_none rfl) rfl rfl (by kernel_rfl) rfl (by kernel_rfl) (by rw [qe1]) Tryz.func44 (by kernel_rfl) (by kernel_rfl) ?_
      refine ((rcompare_s ((S3.qi 0 rfl).dn (by omega)) (h2.num (by omega)) HS1.out)).mono ?_; rintro e w4 ⟨rfl, hk4⟩; exact ⟨_, rfl, hk4, rfl⟩
    | i + 4, hi => exact absurd hi (by omega)
  · intro vs W5 hk3 hΦ _
    simp only [List.drop_succ_cons, List.drop_zero]
    rw [fr_frD, show (List.range 4).map _ = [(0, some 10), (1, some 11), (2, some 12), (3, some 13)] by kernel_rfl]
    have pa0 : (vs 0) = .pointer (some ⟨P1, 2, none⟩) := hΦ 0 (by decide)
    have pa1 : (vs 1) = .agg #[.bool d4, .slice B4 m4 e4] := hΦ 1 (by decide)
    have pa2 : IntRep W5 (vs 2) (1) := hΦ 2 (by decide)
    have pa3 : (vs 3) = .int .i64 s1 := hΦ 3 (by decide)
    clear hΦ
    simp only [frD, pa0, pa1, pa3]
    simp only [Act.put, List.setIfInBounds_toArray, List.set_cons_zero, List.set_cons_succ]
    clear pa0 pa1 pa3
    generalize vs 2 = Upa2 at pa2 ⊢
    replace S := S.drew.below hk3
    clear pa2
    clear hk3
    rcases Bool.eq_false_or_eq_true ((s1 == 0)) with t1 | t1
    · skip
      go_wp2
      go_ret
      exact ⟨by rw [HF1.out (by have := beq_iff_eq.1 t1; exact den_one this HS1.out)]; rfl, S.k⟩
    · skip
      have r1_0 := S.c 0 0 rfl rfl
      have r1_1 := S.c 0 1 rfl rfl
      have r1_2 := S.c 0 2 rfl rfl
      have r1_3 := S.c 0 3 rfl rfl
      go_wp2_with fail
      refine ((rtext_l ((S.qi 0 rfl).dn (by omega)) HT2.out)).mono ?_
      rintro e W6 ⟨rfl, hk⟩
      replace S := S.below hk
      clear hk
      clear r1_0 r1_1 r1_2 r1_3
      go_wp2
      go_ret
      exact ⟨by rw [HF2.out (fun h => by have h2 := HS1.out; rw [h] at h2; rw [← h2] at t1; exact absurd t1 (by decide))]; rfl, S.k⟩
end Go.Proofs.YtmochehkkadjnaaGreatDoor
