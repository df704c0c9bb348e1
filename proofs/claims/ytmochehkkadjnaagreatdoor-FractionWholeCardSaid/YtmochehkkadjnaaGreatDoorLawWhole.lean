/- The walk of the law FractionWhole. -/
import Derived.Test.YtmochehkkadjnaaGreatDoorMgLawF
import Derived.Test.YtmochehkkadjnaaGreatDoorGDec
import Derived.Test.YtmochehkkadjnaaGreatDoorStab2
namespace Go.Proofs.YtmochehkkadjnaaGreatDoor
open Go.RowKit Go.Shelf

theorem rvalid_rep {w : World} {V : Value} {z : Int} (h : IntRep w V z) (hl : lenI z ≤ 900000) : Calls Tryz.prog 49 #[V] w fun e w' => e = .returned (.bool true) ∧ Keeps w w' := by
  have := rvalid_num _ _ V w h.arg hl
  rwa [validB_rep] at this
theorem fdec_t {w : World} {V1 : Value} {x : Rat} {k : Nat} {T : List UInt8} (h1 : RatNum w V1 x) (hk1 : k ≤ 100) (zx : szR x ≤ 20000) (ht : PowTab w) (hT : decT (nearR (x * ((10 ^ k : Int) : Rat))) k = T) :
    Calls Tryz.prog 45 #[V1, .int .i64 (k : Int)] w fun e w' => e = .returned (.tuple #[.string ⟨T.toArray⟩, .int .i64 0]) ∧ Keeps w w' := by
  subst hT; exact fdec_good h1 hk1 zx ht
theorem gdec_t {w : World} {V1 : Value} {x : Rat} {k : Nat} {T : List UInt8} (h1 : RatNum w V1 x) (hk1 : k ≤ 100) (zx : szR x ≤ 20000) (hT : decT (nearR (x * ((10 ^ k : Int) : Rat))) k = T) :
    Calls Tryz.prog 46 #[V1, .int .i64 (k : Int)] w fun e w' => e = .returned (.tuple #[.string ⟨T.toArray⟩, .int .i64 0]) ∧ Keeps w w' := by
  subst hT; exact gdec_good h1 hk1 zx
theorem fdec_bad {w : World} {V1 : Value} {x : Rat} {k : Int} (h1 : RatNum w V1 x) (h : k < 0 ∨ 100 < k) : Calls Tryz.prog 45 #[V1, .int .i64 k] w fun e w' => e = .returned (.tuple #[.string ⟨#[]⟩, .int .i64 2]) ∧ Keeps w w' := by
  rcases h with h | h
  · exact fdec_neg h1 h
  · exact fdec_big h1 h
theorem gdec_bad {w : World} {V1 : Value} {x : Rat} {k : Int} (h1 : RatNum w V1 x) (h : k < 0 ∨ 100 < k) : Calls Tryz.prog 46 #[V1, .int .i64 k] w fun e w' => e = .returned (.tuple #[.string ⟨#[]⟩, .int .i64 2]) ∧ Keeps w w' := by
  rcases h with h | h
  · exact gdec_neg h1 h
  · exact gdec_big h1 h
set_option maxRecDepth 100000 in
set_option maxHeartbeats 1000000 in
theorem wh_1 {w : World} {V1 : Value} {x : Rat} (h1 : RatS w V1 x false) {k : Int} (ht : PowTab w) : Calls Tryz.prog 8 #[V1, .int .i64 k] w (fun e w' => e = .returned (.bool true) ∧ Keeps w w') := by
  obtain ⟨b3, A3, n3, c3, d3, B3, m3, e3, rfl⟩ := h1.open_
  have S := ((St.start w).addL h1)
  clear h1
  go_enter Tryz.func8, Tryz.ntmps8
  go_wp2_with fail
  replace S := (S.alloc 28 [.bool b3, .slice A3 n3 c3, .bool d3, .slice B3 m3 e3])
  obtain ⟨W1, eW, S⟩ := S.pack
  rw [eW]
  clear eW
  refine ((known_any _ (ht.keep S.k))).mono ?_
  rintro e W2 ⟨rfl, hk⟩
  replace S := S.below hk
  clear hk
  have r0_0 := S.c 0 0 rfl rfl
  have r0_1 := S.c 0 1 rfl rfl
  have r0_2 := S.c 0 2 rfl rfl
  have r0_3 := S.c 0 3 rfl rfl
  go_wp2_with fail
  refine ((lshort_b (S.li 0 rfl))).mono ?_
  rintro e W3 ⟨rfl, hk⟩
  replace S := S.below hk
  clear hk
  clear r0_0 r0_1 r0_2 r0_3
  go_wp2
  go_ret
  exact ⟨rfl, S.k⟩
set_option maxRecDepth 100000 in
set_option maxHeartbeats 4000000 in
theorem wh_bad {w : World} {V1 : Value} {x : Rat} {k : Int} (h1 : RatS w V1 x true) (ht : PowTab w) (hk : k < 0 ∨ 100 < k) : Calls Tryz.prog 8 #[V1, .int .i64 k] w (fun e w' => e = .returned (.bool true) ∧ Keeps w w') := by
  obtain ⟨b3, A3, n3, c3, d3, B3, m3, e3, rfl⟩ := h1.open_
  have z0 := h1.sz
  have y9 := lenI_floor x
  have y8 := lenI_ceil x
  have y7 := szR_num (Nat.le_refl (szR x))
  have y6 := szR_neg x
  have y0 := lenI_floor x
  have y1 := lenI_ceil x
  have S := ((St.start w).addL h1)
  clear h1
  go_enter Tryz.func8, Tryz.ntmps8
  go_wp2_with fail
  replace S := (S.alloc 28 [.bool b3, .slice A3 n3 c3, .bool d3, .slice B3 m3 e3])
  obtain ⟨W1, eW, S⟩ := S.pack
  rw [eW]
  clear eW
  refine ((known_any _ (ht.keep S.k))).mono ?_
  rintro e W2 ⟨rfl, hk⟩
  replace S := S.below hk
  clear hk
  have r0_0 := S.c 0 0 rfl rfl
  have r0_1 := S.c 0 1 rfl rfl
  have r0_2 := S.c 0 2 rfl rfl
  have r0_3 := S.c 0 3 rfl rfl
  go_wp2_with fail
  refine ((lshort_b (S.li 0 rfl))).mono ?_
  rintro e W3 ⟨rfl, hk⟩
  replace S := S.below hk
  clear hk
  clear r0_0 r0_1 r0_2 r0_3
  have r0_0 := S.c 0 0 rfl rfl
  have r0_1 := S.c 0 1 rfl rfl
  have r0_2 := S.c 0 2 rfl rfl
  have r0_3 := S.c 0 3 rfl rfl
  go_wp2_with fail
  refine ((fdec_bad ((S.li 0 rfl).num) hk)).mono ?_
  rintro e W4 ⟨rfl, hk⟩
  replace S := S.below hk
  clear hk
  clear r0_0 r0_1 r0_2 r0_3
  have r0_0 := S.c 0 0 rfl rfl
  have r0_1 := S.c 0 1 rfl rfl
  have r0_2 := S.c 0 2 rfl rfl
  have r0_3 := S.c 0 3 rfl rfl
  go_wp2_with fail
  refine ((gdec_bad ((S.li 0 rfl).num) hk)).mono ?_
  rintro e W5 ⟨rfl, hk⟩
  replace S := S.below hk
  clear hk
  clear r0_0 r0_1 r0_2 r0_3
  go_upto_region 7 with fail
  refine wp_region_steps (m := 6) rfl (by kernel_rfl) (fun iΦ vΦ wΦ => (List.getD [fun vΦ _ => vΦ = .agg #[.bool b3, .slice A3 n3 c3, .bool d3, .slice B3 m3 e3], fun vΦ wΦ => IntRep wΦ vΦ (x.floor), fun vΦ _ => vΦ = .agg #[.bool b3, .slice A3 n3 c3, .bool d3, .slice B3 m3 e3], fun vΦ wΦ => IntRep wΦ vΦ (x.ceil), fun vΦ wΦ => ∃ b, vΦ = .pointer (some ⟨b, 0, none⟩) ∧ W5.heap.size ≤ b ∧ Own wΦ b 24 [.bool false, .slice none 0 0], fun vΦ wΦ => ∃ b, vΦ = .pointer (some ⟨b, 0, none⟩) ∧ W5.heap.size ≤ b ∧ Own wΦ b 24 [.bool false, .slice none 0 0]] iΦ (fun _ _ => True)) vΦ wΦ) [4, 5] ?_ ?_ ?_
  · intro i v w w' _ h hk
    refine stabL_get ?_ i v w w' h hk
    exact stab_cons st_e (stab_cons st_i (stab_cons st_e (stab_cons st_i (stab_cons st_a (stab_cons st_a stab_nil)))))
  · intro i hi vs w3 hk3 hd
    have S3 := S.drew.below hk3
    have a0 := S3.c 0 0 rfl rfl
    have a1 := S3.c 0 1 rfl rfl
    have a2 := S3.c 0 2 rfl rfl
    have a3 := S3.c 0 3 rfl rfl
    match i, hi with
    | 0, _ =>
      refine step_val0 [] (fun vΦ _ => vΦ = .agg #[.bool b3, .slice A3 n3 c3, .bool d3, .slice B3 m3 e3]) rfl (by kernel_rfl) rfl (fun _ _ h => h) rfl fun K hK => ?_; clear hd; simp only [frD] at hK ⊢; go_simp
      exact hK _ _ (Below.refl _ _) rfl
    | 1, _ =>
      clear a0 a1 a2 a3
      have qe0 : (vs 0) = .agg #[.bool b3, .slice A3 n3 c3, .bool d3, .slice B3 m3 e3] := hd 0 (cm (by kernel_rfl))
      refine step_call (F := 47) (X := .func (.func 47) #[] #[]) (A := #[(vs 0)]) (B := #[.agg #[.bool b3, .slice A3 n3 c3, .bool d3, .slice B3 m3 e3]]) [(0, some 28)] (fun vΦ wΦ => IntRep wΦ vΦ (x.floor)) rfl (by kernel_rfl) (fun _ _ h => h) rfl (wanted_none rfl) rfl rfl (by kernel_rfl) rfl (by kernel_rfl) (by rw [qe0]) Tryz.func47 (by kernel_rfl) (by kernel_rfl) ?_
      refine ((ffloor_num ((S3.li 0 rfl).num))).mono ?_; rintro e w4 ⟨U, rfl, hr, hk4⟩; exact ⟨_, rfl, hk4, hr⟩
    | 2, _ =>
      refine step_val0 [] (fun vΦ _ => vΦ = .agg #[.bool b3, .slice A3 n3 c3, .bool d3, .slice B3 m3 e3]) rfl (by kernel_rfl) rfl (fun _ _ h => h) rfl fun K hK => ?_; clear hd; simp only [frD] at hK ⊢; go_simp
      exact hK _ _ (Below.refl _ _) rfl
    | 3, _ =>
      clear a0 a1 a2 a3
      have h1 : IntRep w3 (vs 1) (x.floor) := hd 1 (cm (by kernel_rfl)); have qe2 : (vs 2) = .agg #[.bool b3, .slice A3 n3 c3, .bool d3, .slice B3 m3 e3] := hd 2 (cm (by kernel_rfl))
      refine step_call (F := 48) (X := .func (.func 48) #[] #[]) (A := #[(vs 2)]) (B := #[.agg #[.bool b3, .slice A3 n3 c3, .bool d3, .slice B3 m3 e3]]) [(1, some 29), (2, some 30)] (fun vΦ wΦ => IntRep wΦ vΦ (x.ceil)) rfl (by kernel_rfl) (fun _ _ h => h) rfl (wanted_none rfl) rfl rfl (by kernel_rfl) rfl (by kernel_rfl) (by rw [qe2]) Tryz.func48 (by kernel_rfl) (by kernel_rfl) ?_
      refine ((fceil_num ((S3.li 0 rfl).num))).mono ?_; rintro e w4 ⟨U, rfl, hr, hk4⟩; exact ⟨_, rfl, hk4, hr⟩
    | 4, _ =>
      clear a0 a1 a2 a3
      refine step_yes [] rfl (by kernel_rfl) fun K hK => ?_; simp only [frD] at hK ⊢; refine ⟨by rfl, ?_⟩; go_simp
      exact hK _ _ ⟨(Below.refl _ _).alloc (Nat.le_refl _) _, ⟨_, rfl, hk3.size, Own.new w3 _ _⟩, fun _ => ⟨rfl, by simp⟩⟩
    | 5, _ =>
      clear a0 a1 a2 a3
      refine step_yes [] rfl (by kernel_rfl) fun K hK => ?_; simp only [frD] at hK ⊢; refine ⟨by rfl, ?_⟩; go_simp
      exact hK _ _ ⟨(Below.refl _ _).alloc (Nat.le_refl _) _, ⟨_, rfl, hk3.size, Own.new w3 _ _⟩, fun _ => ⟨rfl, by simp⟩⟩
    | i + 6, hi => exact absurd hi (by omega)
  · intro vs W6 hk3 hΦ hne
    simp only [List.drop_succ_cons, List.drop_zero]
    rw [fr_frD, show (List.range 6).map _ = [(0, some 28), (1, some 29), (2, some 30), (3, some 31), (4, some 9), (5, some 10)] by kernel_rfl]
    have pa0 : (vs 0) = .agg #[.bool b3, .slice A3 n3 c3, .bool d3, .slice B3 m3 e3] := hΦ 0 (by decide)
    have pa1 : IntRep W6 (vs 1) (x.floor) := hΦ 1 (by decide)
    have pa2 : (vs 2) = .agg #[.bool b3, .slice A3 n3 c3, .bool d3, .slice B3 m3 e3] := hΦ 2 (by decide)
    have pa3 : IntRep W6 (vs 3) (x.ceil) := hΦ 3 (by decide)
    have pa4 : ∃ b, (vs 4) = .pointer (some ⟨b, 0, none⟩) ∧ W5.heap.size ≤ b ∧ Own W6 b 24 [.bool false, .slice none 0 0] := hΦ 4 (by decide)
    have pa5 : ∃ b, (vs 5) = .pointer (some ⟨b, 0, none⟩) ∧ W5.heap.size ≤ b ∧ Own W6 b 24 [.bool false, .slice none 0 0] := hΦ 5 (by decide)
    clear hΦ
    obtain ⟨bpa4, qA4, hlA4, hOA4⟩ := pa4
    obtain ⟨bpa5, qA5, hlA5, hOA5⟩ := pa5
    simp only [frD, pa0, pa2, qA4, qA5]
    simp only [Act.put, List.setIfInBounds_toArray, List.set_cons_zero, List.set_cons_succ]
    clear pa0 pa2
    generalize vs 1 = Upa1 at pa1 ⊢
    generalize vs 3 = Upa3 at pa3 ⊢
    have SD := S.drew
    replace S := S.drew.box (S.drew.below hk3) hOA4 hlA4
    have nApa : bpa5 ≠ bpa4 := fun e => hne 5 4 (by decide) (by decide) (by simp) (by simp) (by decide) (by rw [qA5, qA4, e])
    have nBpa := nApa.symm
    replace S := SD.box2 S hOA5 hlA5 nApa
    clear qA4 hlA4 hOA4 qA5 hlA5 hOA5
    clear SD hne
    obtain ⟨b4, A4, n4, c4, rfl⟩ := pa1.open3
    replace S := S.addI pa1
    clear pa1
    obtain ⟨b5, A5, n5, c5, rfl⟩ := pa3.open3
    replace S := S.addI pa3
    clear pa3
    clear hk3
    have r1_0 := S.c 1 0 rfl rfl
    have f1_0 := S.f 1 0 rfl
    have r1_1 := S.c 1 1 rfl rfl
    have f1_1 := S.f 1 1 rfl
    have r2_0 := S.c 0 0 rfl rfl
    have f2_0 := S.f 0 0 rfl
    have r2_1 := S.c 0 1 rfl rfl
    have f2_1 := S.f 0 1 rfl
    go_upto_region 8 with fail
    replace S := ((S.put2 1 rfl rfl rfl (x' := .bool b4) (y' := .slice A4 n4 c4)).put2 0 rfl rfl rfl (x' := .bool b5) (y' := .slice A5 n5 c5))
    obtain ⟨W7, eW, S⟩ := S.pack
    rw [eW]
    clear eW
    clear r1_0 f1_0 r1_1 f1_1 r2_0 f2_0 r2_1 f2_1
    refine wp_region_steps (m := 30) rfl (by kernel_rfl) (fun iΦ vΦ wΦ => (List.getD [fun vΦ _ => vΦ = .string ⟨#[]⟩, fun vΦ _ => vΦ = .string ⟨#[]⟩, fun vΦ _ => vΦ = .bool true, fun vΦ _ => vΦ = .bool true, fun vΦ _ => vΦ = .int .i64 2, fun vΦ _ => vΦ = .int .i64 2, fun vΦ _ => vΦ = .bool true, fun vΦ _ => vΦ = .bool true, fun vΦ _ => vΦ = .bool true, fun vΦ _ => vΦ = .agg #[.bool b4, .slice A4 n4 c4], fun vΦ _ => vΦ = .bool true, fun vΦ _ => vΦ = .bool true, fun vΦ _ => vΦ = .bool true, fun vΦ _ => vΦ = .agg #[.bool b5, .slice A5 n5 c5], fun vΦ _ => vΦ = .bool true, fun vΦ _ => vΦ = .bool true, fun vΦ _ => vΦ = .bool true, fun vΦ _ => vΦ = .agg #[.bool b4, .slice A4 n4 c4], fun vΦ _ => vΦ = .agg #[.bool b3, .slice A3 n3 c3, .bool d3, .slice B3 m3 e3], fun vΦ wΦ => IntRep wΦ vΦ (x.floor), fun vΦ _ => vΦ = .int .i64 0, fun vΦ _ => vΦ = .bool true, fun vΦ _ => vΦ = .bool true, fun vΦ _ => vΦ = .bool true, fun vΦ _ => vΦ = .agg #[.bool b5, .slice A5 n5 c5], fun vΦ _ => vΦ = .agg #[.bool b3, .slice A3 n3 c3, .bool d3, .slice B3 m3 e3], fun vΦ wΦ => IntRep wΦ vΦ (x.ceil), fun vΦ _ => vΦ = .int .i64 0, fun vΦ _ => vΦ = .bool true, fun vΦ _ => vΦ = .bool true] iΦ (fun _ _ => True)) vΦ wΦ) [] ?_ ?_ ?_
    · intro i v w w' _ h hk
      refine stabL_get ?_ i v w w' h hk
      exact stab_cons st_e (stab_cons st_e (stab_cons st_e (stab_cons st_e (stab_cons st_e (stab_cons st_e (stab_cons st_e (stab_cons st_e (stab_cons st_e (stab_cons st_e (stab_cons st_e (stab_cons st_e (stab_cons st_e (stab_cons st_e (stab_cons st_e (stab_cons st_e (stab_cons st_e (stab_cons st_e (stab_cons st_e (stab_cons st_i (stab_cons st_e (stab_cons st_e (stab_cons st_e (stab_cons st_e (stab_cons st_e (stab_cons st_e (stab_cons st_i (stab_cons st_e (stab_cons st_e (stab_cons st_e stab_nil)))))))))))))))))))))))))))))
    · intro i hi vs w3 hk3 hd
      have S3 := S.drew.below hk3
      have a0 := S3.c 2 0 rfl rfl
      have a1 := S3.c 2 1 rfl rfl
      have a2 := S3.c 2 2 rfl rfl
      have a3 := S3.c 2 3 rfl rfl
      have a4 := S3.c 1 0 rfl rfl
      have a5 := S3.c 1 1 rfl rfl
      have a6 := S3.c 0 0 rfl rfl
      have a7 := S3.c 0 1 rfl rfl
      match i, hi with
      | 0, _ =>
        clear a0 a1 a2 a3 a4 a5 a6 a7
        refine step_val0 [] (fun vΦ _ => vΦ = .string ⟨#[]⟩) rfl (by kernel_rfl) rfl (fun _ _ h => h) rfl fun K hK => ?_; clear hd; simp only [frD] at hK ⊢; go_simp
        exact hK _ _ (Below.refl _ _) rfl
      | 1, _ =>
        clear a0 a1 a2 a3 a4 a5 a6 a7
        refine step_val0 [] (fun vΦ _ => vΦ = .string ⟨#[]⟩) rfl (by kernel_rfl) rfl (fun _ _ h => h) rfl fun K hK => ?_; clear hd; simp only [frD] at hK ⊢; go_simp
        exact hK _ _ (Below.refl _ _) rfl
      | 2, _ =>
        clear a0 a1 a2 a3 a4 a5 a6 a7
        have qe0 : (vs 0) = .string ⟨#[]⟩ := hd 0 (cm (by kernel_rfl)); have qe1 : (vs 1) = .string ⟨#[]⟩ := hd 1 (cm (by kernel_rfl))
        refine step_val0 [(0, some 32), (1, some 33)] (fun vΦ _ => vΦ = .bool true) rfl (by kernel_rfl) rfl (fun _ _ h => h) rfl fun K hK => ?_; clear hd; simp only [frD, qe0, qe1] at hK ⊢; go_simp
        exact hK _ _ (Below.refl _ _) rfl
      | 3, _ =>
        clear a0 a1 a2 a3 a4 a5 a6 a7
        have qe2 : (vs 2) = .bool true := hd 2 (cm (by kernel_rfl))
        refine step_val0 [(2, some 34)] (fun vΦ _ => vΦ = .bool true) rfl (by kernel_rfl) rfl (fun _ _ h => h) rfl fun K hK => ?_; clear hd; simp only [frD, qe2] at hK ⊢; go_simp
        exact hK _ _ (Below.refl _ _) rfl
      | 4, _ =>
        clear a0 a1 a2 a3 a4 a5 a6 a7
        have qe3 : (vs 3) = .bool true := hd 3 (cm (by kernel_rfl))
        refine step_valg [(3, some 35)] (fun vΦ _ => vΦ = .int .i64 2) rfl (by kernel_rfl) (fun _ _ h => h) rfl (wanted_some 35 rfl (by rfl) (by kernel_rfl) qe3) fun K hK => ?_; clear hd; simp only [frD, qe3] at hK ⊢; go_simp
        exact hK _ _ (Below.refl _ _) rfl
      | 5, _ =>
        clear a0 a1 a2 a3 a4 a5 a6 a7
        have qe3 : (vs 3) = .bool true := hd 3 (cm (by kernel_rfl))
        refine step_valg [(3, some 35)] (fun vΦ _ => vΦ = .int .i64 2) rfl (by kernel_rfl) (fun _ _ h => h) rfl (wanted_some 35 rfl (by rfl) (by kernel_rfl) qe3) fun K hK => ?_; clear hd; simp only [frD, qe3] at hK ⊢; go_simp
        exact hK _ _ (Below.refl _ _) rfl
      | 6, _ =>
        clear a0 a1 a2 a3 a4 a5 a6 a7
        have qe3 : (vs 3) = .bool true := hd 3 (cm (by kernel_rfl)); have qe4 : (vs 4) = .int .i64 2 := hd 4 (cm (by kernel_rfl)); have qe5 : (vs 5) = .int .i64 2 := hd 5 (cm (by kernel_rfl))
        refine step_valg [(3, some 35), (4, some 36), (5, some 37)] (fun vΦ _ => vΦ = .bool true) rfl (by kernel_rfl) (fun _ _ h => h) rfl (wanted_some 35 rfl (by rfl) (by kernel_rfl) qe3) fun K hK => ?_; clear hd; simp only [frD, qe3, qe4, qe5] at hK ⊢; go_simp
        exact hK _ _ (Below.refl _ _) rfl
      | 7, _ =>
        clear a0 a1 a2 a3 a4 a5 a6 a7
        have qe3 : (vs 3) = .bool true := hd 3 (cm (by kernel_rfl)); have qe6 : (vs 6) = .bool true := hd 6 (cm (by kernel_rfl))
        refine step_val0 [(3, some 35), (6, some 38)] (fun vΦ _ => vΦ = .bool true) rfl (by kernel_rfl) rfl (fun _ _ h => h) rfl fun K hK => ?_; clear hd; simp only [frD, qe3, qe6] at hK ⊢; go_simp
        exact hK _ _ (Below.refl _ _) rfl
      | 8, _ =>
        clear a0 a1 a2 a3 a4 a5 a6 a7
        have qe3 : (vs 3) = .bool true := hd 3 (cm (by kernel_rfl)); have qe7 : (vs 7) = .bool true := hd 7 (cm (by kernel_rfl))
        refine step_val0 [(3, some 35), (7, some 39)] (fun vΦ _ => vΦ = .bool true) rfl (by kernel_rfl) rfl (fun _ _ h => h) rfl fun K hK => ?_; clear hd; simp only [frD, qe3, qe7] at hK ⊢; go_simp
        exact hK _ _ (Below.refl _ _) rfl
      | 9, _ =>
        have qe8 : (vs 8) = .bool true := hd 8 (cm (by kernel_rfl))
        refine step_valg [(8, some 40)] (fun vΦ _ => vΦ = .agg #[.bool b4, .slice A4 n4 c4]) rfl (by kernel_rfl) (fun _ _ h => h) rfl (wanted_some 40 rfl (by rfl) (by kernel_rfl) qe8) fun K hK => ?_; clear hd; simp only [frD, qe8] at hK ⊢; go_simp
        exact hK _ _ (Below.refl _ _) rfl
      | 10, _ =>
        clear a0 a1 a2 a3 a4 a5 a6 a7
        have qe8 : (vs 8) = .bool true := hd 8 (cm (by kernel_rfl)); have qe9 : (vs 9) = .agg #[.bool b4, .slice A4 n4 c4] := hd 9 (cm (by kernel_rfl))
        refine step_call (F := 49) (X := .func (.func 49) #[] #[]) (A := #[(vs 9)]) (B := #[.agg #[.bool b4, .slice A4 n4 c4]]) [(8, some 40), (9, some 41)] (fun vΦ _ => vΦ = .bool true) rfl (by kernel_rfl) (fun _ _ h => h) rfl (wanted_some 40 rfl (by rfl) (by kernel_rfl) qe8) rfl rfl (by kernel_rfl) rfl (by kernel_rfl) (by rw [qe9]) Tryz.func49 (by kernel_rfl) (by kernel_rfl) ?_
        refine ((rvalid_rep (S3.ii 1 rfl) (by omega))).mono ?_; rintro e w4 ⟨rfl, hk4⟩; exact ⟨_, rfl, hk4, rfl⟩
      | 11, _ =>
        clear a0 a1 a2 a3 a4 a5 a6 a7
        have qe8 : (vs 8) = .bool true := hd 8 (cm (by kernel_rfl)); have qe10 : (vs 10) = .bool true := hd 10 (cm (by kernel_rfl))
        refine step_val0 [(8, some 40), (10, some 42)] (fun vΦ _ => vΦ = .bool true) rfl (by kernel_rfl) rfl (fun _ _ h => h) rfl fun K hK => ?_; clear hd; simp only [frD, qe8, qe10] at hK ⊢; go_simp
        exact hK _ _ (Below.refl _ _) rfl
      | 12, _ =>
        clear a0 a1 a2 a3 a4 a5 a6 a7
        have qe10 : (vs 10) = .bool true := hd 10 (cm (by kernel_rfl)); have qe11 : (vs 11) = .bool true := hd 11 (cm (by kernel_rfl))
        refine step_val0 [(10, some 42), (11, some 43)] (fun vΦ _ => vΦ = .bool true) rfl (by kernel_rfl) rfl (fun _ _ h => h) rfl fun K hK => ?_; clear hd; simp only [frD, qe10, qe11] at hK ⊢; go_simp
        exact hK _ _ (Below.refl _ _) rfl
      | 13, _ =>
        have qe12 : (vs 12) = .bool true := hd 12 (cm (by kernel_rfl))
        refine step_valg [(12, some 44)] (fun vΦ _ => vΦ = .agg #[.bool b5, .slice A5 n5 c5]) rfl (by kernel_rfl) (fun _ _ h => h) rfl (wanted_some 44 rfl (by rfl) (by kernel_rfl) qe12) fun K hK => ?_; clear hd; simp only [frD, qe12] at hK ⊢; go_simp
        exact hK _ _ (Below.refl _ _) rfl
      | 14, _ =>
        clear a0 a1 a2 a3 a4 a5 a6 a7
        have qe12 : (vs 12) = .bool true := hd 12 (cm (by kernel_rfl)); have qe13 : (vs 13) = .agg #[.bool b5, .slice A5 n5 c5] := hd 13 (cm (by kernel_rfl))
        refine step_call (F := 49) (X := .func (.func 49) #[] #[]) (A := #[(vs 13)]) (B := #[.agg #[.bool b5, .slice A5 n5 c5]]) [(12, some 44), (13, some 45)] (fun vΦ _ => vΦ = .bool true) rfl (by kernel_rfl) (fun _ _ h => h) rfl (wanted_some 44 rfl (by rfl) (by kernel_rfl) qe12) rfl rfl (by kernel_rfl) rfl (by kernel_rfl) (by rw [qe13]) Tryz.func49 (by kernel_rfl) (by kernel_rfl) ?_
        refine ((rvalid_rep (S3.ii 0 rfl) (by omega))).mono ?_; rintro e w4 ⟨rfl, hk4⟩; exact ⟨_, rfl, hk4, rfl⟩
      | 15, _ =>
        clear a0 a1 a2 a3 a4 a5 a6 a7
        have qe12 : (vs 12) = .bool true := hd 12 (cm (by kernel_rfl)); have qe14 : (vs 14) = .bool true := hd 14 (cm (by kernel_rfl))
        refine step_val0 [(12, some 44), (14, some 46)] (fun vΦ _ => vΦ = .bool true) rfl (by kernel_rfl) rfl (fun _ _ h => h) rfl fun K hK => ?_; clear hd; simp only [frD, qe12, qe14] at hK ⊢; go_simp
        exact hK _ _ (Below.refl _ _) rfl
      | 16, _ =>
        clear a0 a1 a2 a3 a4 a5 a6 a7
        have qe14 : (vs 14) = .bool true := hd 14 (cm (by kernel_rfl)); have qe15 : (vs 15) = .bool true := hd 15 (cm (by kernel_rfl))
        refine step_val0 [(14, some 46), (15, some 47)] (fun vΦ _ => vΦ = .bool true) rfl (by kernel_rfl) rfl (fun _ _ h => h) rfl fun K hK => ?_; clear hd; simp only [frD, qe14, qe15] at hK ⊢; go_simp
        exact hK _ _ (Below.refl _ _) rfl
      | 17, _ =>
        have qe16 : (vs 16) = .bool true := hd 16 (cm (by kernel_rfl))
        refine step_valg [(16, some 48)] (fun vΦ _ => vΦ = .agg #[.bool b4, .slice A4 n4 c4]) rfl (by kernel_rfl) (fun _ _ h => h) rfl (wanted_some 48 rfl (by rfl) (by kernel_rfl) qe16) fun K hK => ?_; clear hd; simp only [frD, qe16] at hK ⊢; go_simp
        exact hK _ _ (Below.refl _ _) rfl
      | 18, _ =>
        have qe16 : (vs 16) = .bool true := hd 16 (cm (by kernel_rfl))
        refine step_valg [(16, some 48)] (fun vΦ _ => vΦ = .agg #[.bool b3, .slice A3 n3 c3, .bool d3, .slice B3 m3 e3]) rfl (by kernel_rfl) (fun _ _ h => h) rfl (wanted_some 48 rfl (by rfl) (by kernel_rfl) qe16) fun K hK => ?_; clear hd; simp only [frD, qe16] at hK ⊢; go_simp
        exact hK _ _ (Below.refl _ _) rfl
      | 19, _ =>
        clear a0 a1 a2 a3 a4 a5 a6 a7
        have qe16 : (vs 16) = .bool true := hd 16 (cm (by kernel_rfl)); have qe18 : (vs 18) = .agg #[.bool b3, .slice A3 n3 c3, .bool d3, .slice B3 m3 e3] := hd 18 (cm (by kernel_rfl))
        refine step_call (F := 50) (X := .func (.func 50) #[] #[]) (A := #[(vs 18)]) (B := #[.agg #[.bool b3, .slice A3 n3 c3, .bool d3, .slice B3 m3 e3]]) [(16, some 48), (18, some 50)] (fun vΦ wΦ => IntRep wΦ vΦ (x.floor)) rfl (by kernel_rfl) (fun _ _ h => h) rfl (wanted_some 48 rfl (by rfl) (by kernel_rfl) qe16) rfl rfl (by kernel_rfl) rfl (by kernel_rfl) (by rw [qe18]) Tryz.func50 (by kernel_rfl) (by kernel_rfl) ?_
        refine ((gfloor_num ((S3.li 2 rfl).num))).mono ?_; rintro e w4 ⟨U, rfl, hr, hk4⟩; exact ⟨_, rfl, hk4, hr⟩
      | 20, _ =>
        clear a0 a1 a2 a3 a4 a5 a6 a7
        have qe16 : (vs 16) = .bool true := hd 16 (cm (by kernel_rfl)); have qe17 : (vs 17) = .agg #[.bool b4, .slice A4 n4 c4] := hd 17 (cm (by kernel_rfl)); have h19 : IntRep w3 (vs 19) (x.floor) := hd 19 (cm (by kernel_rfl))
        refine step_call (F := 44) (X := .func (.func 44) #[] #[]) (A := #[(vs 17), (vs 19)]) (B := #[.agg #[.bool b4, .slice A4 n4 c4], (vs 19)]) [(16, some 48), (17, some 49), (19, some 51)] (fun vΦ _ => vΦ = .int .i64 0) rfl (by kernel_rfl) (fun _ _ h => h) rfl (wanted_some 48 rfl (by rfl) (by kernel_rfl) qe16) rfl rfl (by kernel_rfl) rfl (by kernel_rfl) (by rw [qe17]) Tryz.func44 (by kernel_rfl) (by kernel_rfl) ?_
        refine ((rcompare_s ((S3.ii 1 rfl).num (by omega)) (h19.num (by omega)) (by rw [Int.sub_self]))).mono ?_; rintro e w4 ⟨rfl, hk4⟩; exact ⟨_, rfl, hk4, rfl⟩
      | 21, _ =>
        clear a0 a1 a2 a3 a4 a5 a6 a7
        have qe16 : (vs 16) = .bool true := hd 16 (cm (by kernel_rfl)); have qe20 : (vs 20) = .int .i64 0 := hd 20 (cm (by kernel_rfl))
        refine step_valg [(16, some 48), (20, some 52)] (fun vΦ _ => vΦ = .bool true) rfl (by kernel_rfl) (fun _ _ h => h) rfl (wanted_some 48 rfl (by rfl) (by kernel_rfl) qe16) fun K hK => ?_; clear hd; simp only [frD, qe16, qe20] at hK ⊢; go_simp
        exact hK _ _ (Below.refl _ _) rfl
      | 22, _ =>
        clear a0 a1 a2 a3 a4 a5 a6 a7
        have qe16 : (vs 16) = .bool true := hd 16 (cm (by kernel_rfl)); have qe21 : (vs 21) = .bool true := hd 21 (cm (by kernel_rfl))
        refine step_val0 [(16, some 48), (21, some 53)] (fun vΦ _ => vΦ = .bool true) rfl (by kernel_rfl) rfl (fun _ _ h => h) rfl fun K hK => ?_; clear hd; simp only [frD, qe16, qe21] at hK ⊢; go_simp
        exact hK _ _ (Below.refl _ _) rfl
      | 23, _ =>
        clear a0 a1 a2 a3 a4 a5 a6 a7
        have qe20 : (vs 20) = .int .i64 0 := hd 20 (cm (by kernel_rfl)); have qe22 : (vs 22) = .bool true := hd 22 (cm (by kernel_rfl))
        refine step_val0 [(20, some 52), (22, some 54)] (fun vΦ _ => vΦ = .bool true) rfl (by kernel_rfl) rfl (fun _ _ h => h) rfl fun K hK => ?_; clear hd; simp only [frD, qe20, qe22] at hK ⊢; go_simp
        exact hK _ _ (Below.refl _ _) rfl
      | 24, _ =>
        have qe23 : (vs 23) = .bool true := hd 23 (cm (by kernel_rfl))
        refine step_valg [(23, some 55)] (fun vΦ _ => vΦ = .agg #[.bool b5, .slice A5 n5 c5]) rfl (by kernel_rfl) (fun _ _ h => h) rfl (wanted_some 55 rfl (by rfl) (by kernel_rfl) qe23) fun K hK => ?_; clear hd; simp only [frD, qe23] at hK ⊢; go_simp
        exact hK _ _ (Below.refl _ _) rfl
      | 25, _ =>
        have qe23 : (vs 23) = .bool true := hd 23 (cm (by kernel_rfl))
        refine step_valg [(23, some 55)] (fun vΦ _ => vΦ = .agg #[.bool b3, .slice A3 n3 c3, .bool d3, .slice B3 m3 e3]) rfl (by kernel_rfl) (fun _ _ h => h) rfl (wanted_some 55 rfl (by rfl) (by kernel_rfl) qe23) fun K hK => ?_; clear hd; simp only [frD, qe23] at hK ⊢; go_simp
        exact hK _ _ (Below.refl _ _) rfl
      | 26, _ =>
        clear a0 a1 a2 a3 a4 a5 a6 a7
        have qe23 : (vs 23) = .bool true := hd 23 (cm (by kernel_rfl)); have qe25 : (vs 25) = .agg #[.bool b3, .slice A3 n3 c3, .bool d3, .slice B3 m3 e3] := hd 25 (cm (by kernel_rfl))
        refine step_call (F := 51) (X := .func (.func 51) #[] #[]) (A := #[(vs 25)]) (B := #[.agg #[.bool b3, .slice A3 n3 c3, .bool d3, .slice B3 m3 e3]]) [(23, some 55), (25, some 57)] (fun vΦ wΦ => IntRep wΦ vΦ (x.ceil)) rfl (by kernel_rfl) (fun _ _ h => h) rfl (wanted_some 55 rfl (by rfl) (by kernel_rfl) qe23) rfl rfl (by kernel_rfl) rfl (by kernel_rfl) (by rw [qe25]) Tryz.func51 (by kernel_rfl) (by kernel_rfl) ?_
        refine ((gceil_num ((S3.li 2 rfl).num))).mono ?_; rintro e w4 ⟨U, rfl, hr, hk4⟩; exact ⟨_, rfl, hk4, hr⟩
      | 27, _ =>
        clear a0 a1 a2 a3 a4 a5 a6 a7
        have qe23 : (vs 23) = .bool true := hd 23 (cm (by kernel_rfl)); have qe24 : (vs 24) = .agg #[.bool b5, .slice A5 n5 c5] := hd 24 (cm (by kernel_rfl)); have h26 : IntRep w3 (vs 26) (x.ceil) := hd 26 (cm (by kernel_rfl))
        refine step_call (F := 44) (X := .func (.func 44) #[] #[]) (A := #[(vs 24), (vs 26)]) (B := #[.agg #[.bool b5, .slice A5 n5 c5], (vs 26)]) [(23, some 55), (24, some 56), (26, some 58)] (fun vΦ _ => vΦ = .int .i64 0) rfl (by kernel_rfl) (fun _ _ h => h) rfl (wanted_some 55 rfl (by rfl) (by kernel_rfl) qe23) rfl rfl (by kernel_rfl) rfl (by kernel_rfl) (by rw [qe24]) Tryz.func44 (by kernel_rfl) (by kernel_rfl) ?_
        refine ((rcompare_s ((S3.ii 0 rfl).num (by omega)) (h26.num (by omega)) (by rw [Int.sub_self]))).mono ?_; rintro e w4 ⟨rfl, hk4⟩; exact ⟨_, rfl, hk4, rfl⟩
      | 28, _ =>
        clear a0 a1 a2 a3 a4 a5 a6 a7
        have qe23 : (vs 23) = .bool true := hd 23 (cm (by kernel_rfl)); have qe27 : (vs 27) = .int .i64 0 := hd 27 (cm (by kernel_rfl))
        refine step_valg [(23, some 55), (27, some 59)] (fun vΦ _ => vΦ = .bool true) rfl (by kernel_rfl) (fun _ _ h => h) rfl (wanted_some 55 rfl (by rfl) (by kernel_rfl) qe23) fun K hK => ?_; clear hd; simp only [frD, qe23, qe27] at hK ⊢; go_simp
        exact hK _ _ (Below.refl _ _) rfl
      | 29, _ =>
        clear a0 a1 a2 a3 a4 a5 a6 a7
        have qe23 : (vs 23) = .bool true := hd 23 (cm (by kernel_rfl)); have qe28 : (vs 28) = .bool true := hd 28 (cm (by kernel_rfl))
        refine step_val0 [(23, some 55), (28, some 60)] (fun vΦ _ => vΦ = .bool true) rfl (by kernel_rfl) rfl (fun _ _ h => h) rfl fun K hK => ?_; clear hd; simp only [frD, qe23, qe28] at hK ⊢; go_simp
        exact hK _ _ (Below.refl _ _) rfl
      | i + 30, hi => exact absurd hi (by omega)
    · intro vs W8 hk3 hΦ _
      simp only [List.drop_succ_cons, List.drop_zero]
      rw [fr_frD, show (List.range 30).map _ = [(0, some 32), (1, some 33), (2, some 34), (3, some 35), (4, some 36), (5, some 37), (6, some 38), (7, some 39), (8, some 40), (9, some 41), (10, some 42), (11, some 43), (12, some 44), (13, some 45), (14, some 46), (15, some 47), (16, some 48), (17, some 49), (18, some 50), (19, some 51), (20, some 52), (21, some 53), (22, some 54), (23, some 55), (24, some 56), (25, some 57), (26, some 58), (27, some 59), (28, some 60), (29, some 61)] by kernel_rfl]
      have pb0 : (vs 0) = .string ⟨#[]⟩ := hΦ 0 (by decide)
      have pb1 : (vs 1) = .string ⟨#[]⟩ := hΦ 1 (by decide)
      have pb2 : (vs 2) = .bool true := hΦ 2 (by decide)
      have pb3 : (vs 3) = .bool true := hΦ 3 (by decide)
      have pb4 : (vs 4) = .int .i64 2 := hΦ 4 (by decide)
      have pb5 : (vs 5) = .int .i64 2 := hΦ 5 (by decide)
      have pb6 : (vs 6) = .bool true := hΦ 6 (by decide)
      have pb7 : (vs 7) = .bool true := hΦ 7 (by decide)
      have pb8 : (vs 8) = .bool true := hΦ 8 (by decide)
      have pb9 : (vs 9) = .agg #[.bool b4, .slice A4 n4 c4] := hΦ 9 (by decide)
      have pb10 : (vs 10) = .bool true := hΦ 10 (by decide)
      have pb11 : (vs 11) = .bool true := hΦ 11 (by decide)
      have pb12 : (vs 12) = .bool true := hΦ 12 (by decide)
      have pb13 : (vs 13) = .agg #[.bool b5, .slice A5 n5 c5] := hΦ 13 (by decide)
      have pb14 : (vs 14) = .bool true := hΦ 14 (by decide)
      have pb15 : (vs 15) = .bool true := hΦ 15 (by decide)
      have pb16 : (vs 16) = .bool true := hΦ 16 (by decide)
      have pb17 : (vs 17) = .agg #[.bool b4, .slice A4 n4 c4] := hΦ 17 (by decide)
      have pb18 : (vs 18) = .agg #[.bool b3, .slice A3 n3 c3, .bool d3, .slice B3 m3 e3] := hΦ 18 (by decide)
      have pb19 : IntRep W8 (vs 19) (x.floor) := hΦ 19 (by decide)
      have pb20 : (vs 20) = .int .i64 0 := hΦ 20 (by decide)
      have pb21 : (vs 21) = .bool true := hΦ 21 (by decide)
      have pb22 : (vs 22) = .bool true := hΦ 22 (by decide)
      have pb23 : (vs 23) = .bool true := hΦ 23 (by decide)
      have pb24 : (vs 24) = .agg #[.bool b5, .slice A5 n5 c5] := hΦ 24 (by decide)
      have pb25 : (vs 25) = .agg #[.bool b3, .slice A3 n3 c3, .bool d3, .slice B3 m3 e3] := hΦ 25 (by decide)
      have pb26 : IntRep W8 (vs 26) (x.ceil) := hΦ 26 (by decide)
      have pb27 : (vs 27) = .int .i64 0 := hΦ 27 (by decide)
      have pb28 : (vs 28) = .bool true := hΦ 28 (by decide)
      have pb29 : (vs 29) = .bool true := hΦ 29 (by decide)
      clear hΦ
      simp only [frD, pb0, pb1, pb2, pb3, pb4, pb5, pb6, pb7, pb8, pb9, pb10, pb11, pb12, pb13, pb14, pb15, pb16, pb17, pb18, pb20, pb21, pb22, pb23, pb24, pb25, pb27, pb28, pb29]
      simp only [Act.put, List.setIfInBounds_toArray, List.set_cons_zero, List.set_cons_succ]
      clear pb0 pb1 pb2 pb3 pb4 pb5 pb6 pb7 pb8 pb9 pb10 pb11 pb12 pb13 pb14 pb15 pb16 pb17 pb18 pb20 pb21 pb22 pb23 pb24 pb25 pb27 pb28 pb29
      generalize vs 19 = Upb19 at pb19 ⊢
      generalize vs 26 = Upb26 at pb26 ⊢
      replace S := S.drew.below hk3
      clear pb19
      clear pb26
      clear hk3
      go_wp2
      go_ret
      exact ⟨rfl, S.k⟩
set_option maxRecDepth 100000 in
set_option maxHeartbeats 4000000 in
theorem wh_good {w : World} {V1 : Value} {x : Rat} {k : Nat} {T : List UInt8} (h1 : RatS w V1 x true) (ht : PowTab w) (hk : k ≤ 100) (hT : decT (nearR (x * ((10 ^ k : Int) : Rat))) k = T) : Calls Tryz.prog 8 #[V1, .int .i64 (k : Int)] w (fun e w' => e = .returned (.bool true) ∧ Keeps w w') := by
  obtain ⟨b3, A3, n3, c3, d3, B3, m3, e3, rfl⟩ := h1.open_
  have z0 := h1.sz
  have y9 := lenI_floor x
  have y8 := lenI_ceil x
  have y7 := szR_num (Nat.le_refl (szR x))
  have y6 := szR_neg x
  have HT := Lib.hid hT
  clear hT
  have y0 := lenI_floor x
  have y1 := lenI_ceil x
  have S := ((St.start w).addL h1)
  clear h1
  go_enter Tryz.func8, Tryz.ntmps8
  go_wp2_with fail
  replace S := (S.alloc 28 [.bool b3, .slice A3 n3 c3, .bool d3, .slice B3 m3 e3])
  obtain ⟨W1, eW, S⟩ := S.pack
  rw [eW]
  clear eW
  refine ((known_any _ (ht.keep S.k))).mono ?_
  rintro e W2 ⟨rfl, hk⟩
  replace S := S.below hk
  clear hk
  have r0_0 := S.c 0 0 rfl rfl
  have r0_1 := S.c 0 1 rfl rfl
  have r0_2 := S.c 0 2 rfl rfl
  have r0_3 := S.c 0 3 rfl rfl
  go_wp2_with fail
  refine ((lshort_b (S.li 0 rfl))).mono ?_
  rintro e W3 ⟨rfl, hk⟩
  replace S := S.below hk
  clear hk
  clear r0_0 r0_1 r0_2 r0_3
  have r0_0 := S.c 0 0 rfl rfl
  have r0_1 := S.c 0 1 rfl rfl
  have r0_2 := S.c 0 2 rfl rfl
  have r0_3 := S.c 0 3 rfl rfl
  go_wp2_with fail
  refine ((fdec_t ((S.li 0 rfl).num) hk (by omega) (ht.keep S.k) HT.out)).mono ?_
  rintro e W4 ⟨rfl, hk⟩
  replace S := S.below hk
  clear hk
  clear r0_0 r0_1 r0_2 r0_3
  have r0_0 := S.c 0 0 rfl rfl
  have r0_1 := S.c 0 1 rfl rfl
  have r0_2 := S.c 0 2 rfl rfl
  have r0_3 := S.c 0 3 rfl rfl
  go_wp2_with fail
  refine ((gdec_t ((S.li 0 rfl).num) hk (by omega) HT.out)).mono ?_
  rintro e W5 ⟨rfl, hk⟩
  replace S := S.below hk
  clear hk
  clear r0_0 r0_1 r0_2 r0_3
  go_upto_region 7 with fail
  refine wp_region_steps (m := 6) rfl (by kernel_rfl) (fun iΦ vΦ wΦ => (List.getD [fun vΦ _ => vΦ = .agg #[.bool b3, .slice A3 n3 c3, .bool d3, .slice B3 m3 e3], fun vΦ wΦ => IntRep wΦ vΦ (x.floor), fun vΦ _ => vΦ = .agg #[.bool b3, .slice A3 n3 c3, .bool d3, .slice B3 m3 e3], fun vΦ wΦ => IntRep wΦ vΦ (x.ceil), fun vΦ wΦ => ∃ b, vΦ = .pointer (some ⟨b, 0, none⟩) ∧ W5.heap.size ≤ b ∧ Own wΦ b 24 [.bool false, .slice none 0 0], fun vΦ wΦ => ∃ b, vΦ = .pointer (some ⟨b, 0, none⟩) ∧ W5.heap.size ≤ b ∧ Own wΦ b 24 [.bool false, .slice none 0 0]] iΦ (fun _ _ => True)) vΦ wΦ) [4, 5] ?_ ?_ ?_
  · intro i v w w' _ h hk
    refine stabL_get ?_ i v w w' h hk
    exact stab_cons st_e (stab_cons st_i (stab_cons st_e (stab_cons st_i (stab_cons st_a (stab_cons st_a stab_nil)))))
  · intro i hi vs w3 hk3 hd
    have S3 := S.drew.below hk3
    have a0 := S3.c 0 0 rfl rfl
    have a1 := S3.c 0 1 rfl rfl
    have a2 := S3.c 0 2 rfl rfl
    have a3 := S3.c 0 3 rfl rfl
    match i, hi with
    | 0, _ =>
      refine step_val0 [] (fun vΦ _ => vΦ = .agg #[.bool b3, .slice A3 n3 c3, .bool d3, .slice B3 m3 e3]) rfl (by kernel_rfl) rfl (fun _ _ h => h) rfl fun K hK => ?_; clear hd; simp only [frD] at hK ⊢; go_simp
      exact hK _ _ (Below.refl _ _) rfl
    | 1, _ =>
      clear a0 a1 a2 a3
      have qe0 : (vs 0) = .agg #[.bool b3, .slice A3 n3 c3, .bool d3, .slice B3 m3 e3] := hd 0 (cm (by kernel_rfl))
      refine step_call (F := 47) (X := .func (.func 47) #[] #[]) (A := #[(vs 0)]) (B := #[.agg #[.bool b3, .slice A3 n3 c3, .bool d3, .slice B3 m3 e3]]) [(0, some 28)] (fun vΦ wΦ => IntRep wΦ vΦ (x.floor)) rfl (by kernel_rfl) (fun _ _ h => h) rfl (wanted_none rfl) rfl rfl (by kernel_rfl) rfl (by kernel_rfl) (by rw [qe0]) Tryz.func47 (by kernel_rfl) (by kernel_rfl) ?_
      refine ((ffloor_num ((S3.li 0 rfl).num))).mono ?_; rintro e w4 ⟨U, rfl, hr, hk4⟩; exact ⟨_, rfl, hk4, hr⟩
    | 2, _ =>
      refine step_val0 [] (fun vΦ _ => vΦ = .agg #[.bool b3, .slice A3 n3 c3, .bool d3, .slice B3 m3 e3]) rfl (by kernel_rfl) rfl (fun _ _ h => h) rfl fun K hK => ?_; clear hd; simp only [frD] at hK ⊢; go_simp
      exact hK _ _ (Below.refl _ _) rfl
    | 3, _ =>
      clear a0 a1 a2 a3
      have h1 : IntRep w3 (vs 1) (x.floor) := hd 1 (cm (by kernel_rfl)); have qe2 : (vs 2) = .agg #[.bool b3, .slice A3 n3 c3, .bool d3, .slice B3 m3 e3] := hd 2 (cm (by kernel_rfl))
      refine step_call (F := 48) (X := .func (.func 48) #[] #[]) (A := #[(vs 2)]) (B := #[.agg #[.bool b3, .slice A3 n3 c3, .bool d3, .slice B3 m3 e3]]) [(1, some 29), (2, some 30)] (fun vΦ wΦ => IntRep wΦ vΦ (x.ceil)) rfl (by kernel_rfl) (fun _ _ h => h) rfl (wanted_none rfl) rfl rfl (by kernel_rfl) rfl (by kernel_rfl) (by rw [qe2]) Tryz.func48 (by kernel_rfl) (by kernel_rfl) ?_
      refine ((fceil_num ((S3.li 0 rfl).num))).mono ?_; rintro e w4 ⟨U, rfl, hr, hk4⟩; exact ⟨_, rfl, hk4, hr⟩
    | 4, _ =>
      clear a0 a1 a2 a3
      refine step_yes [] rfl (by kernel_rfl) fun K hK => ?_; simp only [frD] at hK ⊢; refine ⟨by rfl, ?_⟩; go_simp
      exact hK _ _ ⟨(Below.refl _ _).alloc (Nat.le_refl _) _, ⟨_, rfl, hk3.size, Own.new w3 _ _⟩, fun _ => ⟨rfl, by simp⟩⟩
    | 5, _ =>
      clear a0 a1 a2 a3
      refine step_yes [] rfl (by kernel_rfl) fun K hK => ?_; simp only [frD] at hK ⊢; refine ⟨by rfl, ?_⟩; go_simp
      exact hK _ _ ⟨(Below.refl _ _).alloc (Nat.le_refl _) _, ⟨_, rfl, hk3.size, Own.new w3 _ _⟩, fun _ => ⟨rfl, by simp⟩⟩
    | i + 6, hi => exact absurd hi (by omega)
  · intro vs W6 hk3 hΦ hne
    simp only [List.drop_succ_cons, List.drop_zero]
    rw [fr_frD, show (List.range 6).map _ = [(0, some 28), (1, some 29), (2, some 30), (3, some 31), (4, some 9), (5, some 10)] by kernel_rfl]
    have pa0 : (vs 0) = .agg #[.bool b3, .slice A3 n3 c3, .bool d3, .slice B3 m3 e3] := hΦ 0 (by decide)
    have pa1 : IntRep W6 (vs 1) (x.floor) := hΦ 1 (by decide)
    have pa2 : (vs 2) = .agg #[.bool b3, .slice A3 n3 c3, .bool d3, .slice B3 m3 e3] := hΦ 2 (by decide)
    have pa3 : IntRep W6 (vs 3) (x.ceil) := hΦ 3 (by decide)
    have pa4 : ∃ b, (vs 4) = .pointer (some ⟨b, 0, none⟩) ∧ W5.heap.size ≤ b ∧ Own W6 b 24 [.bool false, .slice none 0 0] := hΦ 4 (by decide)
    have pa5 : ∃ b, (vs 5) = .pointer (some ⟨b, 0, none⟩) ∧ W5.heap.size ≤ b ∧ Own W6 b 24 [.bool false, .slice none 0 0] := hΦ 5 (by decide)
    clear hΦ
    obtain ⟨bpa4, qA4, hlA4, hOA4⟩ := pa4
    obtain ⟨bpa5, qA5, hlA5, hOA5⟩ := pa5
    simp only [frD, pa0, pa2, qA4, qA5]
    simp only [Act.put, List.setIfInBounds_toArray, List.set_cons_zero, List.set_cons_succ]
    clear pa0 pa2
    generalize vs 1 = Upa1 at pa1 ⊢
    generalize vs 3 = Upa3 at pa3 ⊢
    have SD := S.drew
    replace S := S.drew.box (S.drew.below hk3) hOA4 hlA4
    have nApa : bpa5 ≠ bpa4 := fun e => hne 5 4 (by decide) (by decide) (by simp) (by simp) (by decide) (by rw [qA5, qA4, e])
    have nBpa := nApa.symm
    replace S := SD.box2 S hOA5 hlA5 nApa
    clear qA4 hlA4 hOA4 qA5 hlA5 hOA5
    clear SD hne
    obtain ⟨b4, A4, n4, c4, rfl⟩ := pa1.open3
    replace S := S.addI pa1
    clear pa1
    obtain ⟨b5, A5, n5, c5, rfl⟩ := pa3.open3
    replace S := S.addI pa3
    clear pa3
    clear hk3
    have r1_0 := S.c 1 0 rfl rfl
    have f1_0 := S.f 1 0 rfl
    have r1_1 := S.c 1 1 rfl rfl
    have f1_1 := S.f 1 1 rfl
    have r2_0 := S.c 0 0 rfl rfl
    have f2_0 := S.f 0 0 rfl
    have r2_1 := S.c 0 1 rfl rfl
    have f2_1 := S.f 0 1 rfl
    go_upto_region 8 with fail
    replace S := ((S.put2 1 rfl rfl rfl (x' := .bool b4) (y' := .slice A4 n4 c4)).put2 0 rfl rfl rfl (x' := .bool b5) (y' := .slice A5 n5 c5))
    obtain ⟨W7, eW, S⟩ := S.pack
    rw [eW]
    clear eW
    clear r1_0 f1_0 r1_1 f1_1 r2_0 f2_0 r2_1 f2_1
    refine wp_region_steps (m := 30) rfl (by kernel_rfl) (fun iΦ vΦ wΦ => (List.getD [fun vΦ _ => vΦ = .string ⟨T.toArray⟩, fun vΦ _ => vΦ = .string ⟨T.toArray⟩, fun vΦ _ => vΦ = .bool true, fun vΦ _ => vΦ = .bool true, fun vΦ _ => vΦ = .int .i64 0, fun vΦ _ => vΦ = .int .i64 0, fun vΦ _ => vΦ = .bool true, fun vΦ _ => vΦ = .bool true, fun vΦ _ => vΦ = .bool true, fun vΦ _ => vΦ = .agg #[.bool b4, .slice A4 n4 c4], fun vΦ _ => vΦ = .bool true, fun vΦ _ => vΦ = .bool true, fun vΦ _ => vΦ = .bool true, fun vΦ _ => vΦ = .agg #[.bool b5, .slice A5 n5 c5], fun vΦ _ => vΦ = .bool true, fun vΦ _ => vΦ = .bool true, fun vΦ _ => vΦ = .bool true, fun vΦ _ => vΦ = .agg #[.bool b4, .slice A4 n4 c4], fun vΦ _ => vΦ = .agg #[.bool b3, .slice A3 n3 c3, .bool d3, .slice B3 m3 e3], fun vΦ wΦ => IntRep wΦ vΦ (x.floor), fun vΦ _ => vΦ = .int .i64 0, fun vΦ _ => vΦ = .bool true, fun vΦ _ => vΦ = .bool true, fun vΦ _ => vΦ = .bool true, fun vΦ _ => vΦ = .agg #[.bool b5, .slice A5 n5 c5], fun vΦ _ => vΦ = .agg #[.bool b3, .slice A3 n3 c3, .bool d3, .slice B3 m3 e3], fun vΦ wΦ => IntRep wΦ vΦ (x.ceil), fun vΦ _ => vΦ = .int .i64 0, fun vΦ _ => vΦ = .bool true, fun vΦ _ => vΦ = .bool true] iΦ (fun _ _ => True)) vΦ wΦ) [] ?_ ?_ ?_
    · intro i v w w' _ h hk
      refine stabL_get ?_ i v w w' h hk
      exact stab_cons st_e (stab_cons st_e (stab_cons st_e (stab_cons st_e (stab_cons st_e (stab_cons st_e (stab_cons st_e (stab_cons st_e (stab_cons st_e (stab_cons st_e (stab_cons st_e (stab_cons st_e (stab_cons st_e (stab_cons st_e (stab_cons st_e (stab_cons st_e (stab_cons st_e (stab_cons st_e (stab_cons st_e (stab_cons st_i (stab_cons st_e (stab_cons st_e (stab_cons st_e (stab_cons st_e (stab_cons st_e (stab_cons st_e (stab_cons st_i (stab_cons st_e (stab_cons st_e (stab_cons st_e stab_nil)))))))))))))))))))))))))))))
    · intro i hi vs w3 hk3 hd
      have S3 := S.drew.below hk3
      have a0 := S3.c 2 0 rfl rfl
      have a1 := S3.c 2 1 rfl rfl
      have a2 := S3.c 2 2 rfl rfl
      have a3 := S3.c 2 3 rfl rfl
      have a4 := S3.c 1 0 rfl rfl
      have a5 := S3.c 1 1 rfl rfl
      have a6 := S3.c 0 0 rfl rfl
      have a7 := S3.c 0 1 rfl rfl
      match i, hi with
      | 0, _ =>
        clear a0 a1 a2 a3 a4 a5 a6 a7
        refine step_val0 [] (fun vΦ _ => vΦ = .string ⟨T.toArray⟩) rfl (by kernel_rfl) rfl (fun _ _ h => h) rfl fun K hK => ?_; clear hd; simp only [frD] at hK ⊢; go_simp
        exact hK _ _ (Below.refl _ _) rfl
      | 1, _ =>
        clear a0 a1 a2 a3 a4 a5 a6 a7
        refine step_val0 [] (fun vΦ _ => vΦ = .string ⟨T.toArray⟩) rfl (by kernel_rfl) rfl (fun _ _ h => h) rfl fun K hK => ?_; clear hd; simp only [frD] at hK ⊢; go_simp
        exact hK _ _ (Below.refl _ _) rfl
      | 2, _ =>
        clear a0 a1 a2 a3 a4 a5 a6 a7
        have qe0 : (vs 0) = .string ⟨T.toArray⟩ := hd 0 (cm (by kernel_rfl)); have qe1 : (vs 1) = .string ⟨T.toArray⟩ := hd 1 (cm (by kernel_rfl))
        refine step_val0 [(0, some 32), (1, some 33)] (fun vΦ _ => vΦ = .bool true) rfl (by kernel_rfl) rfl (fun _ _ h => h) rfl fun K hK => ?_; clear hd; simp only [frD, qe0, qe1] at hK ⊢; go_simp
        exact hK _ _ (Below.refl _ _) rfl
      | 3, _ =>
        clear a0 a1 a2 a3 a4 a5 a6 a7
        have qe2 : (vs 2) = .bool true := hd 2 (cm (by kernel_rfl))
        refine step_val0 [(2, some 34)] (fun vΦ _ => vΦ = .bool true) rfl (by kernel_rfl) rfl (fun _ _ h => h) rfl fun K hK => ?_; clear hd; simp only [frD, qe2] at hK ⊢; go_simp
        exact hK _ _ (Below.refl _ _) rfl
      | 4, _ =>
        clear a0 a1 a2 a3 a4 a5 a6 a7
        have qe3 : (vs 3) = .bool true := hd 3 (cm (by kernel_rfl))
        refine step_valg [(3, some 35)] (fun vΦ _ => vΦ = .int .i64 0) rfl (by kernel_rfl) (fun _ _ h => h) rfl (wanted_some 35 rfl (by rfl) (by kernel_rfl) qe3) fun K hK => ?_; clear hd; simp only [frD, qe3] at hK ⊢; go_simp
        exact hK _ _ (Below.refl _ _) rfl
      | 5, _ =>
        clear a0 a1 a2 a3 a4 a5 a6 a7
        have qe3 : (vs 3) = .bool true := hd 3 (cm (by kernel_rfl))
        refine step_valg [(3, some 35)] (fun vΦ _ => vΦ = .int .i64 0) rfl (by kernel_rfl) (fun _ _ h => h) rfl (wanted_some 35 rfl (by rfl) (by kernel_rfl) qe3) fun K hK => ?_; clear hd; simp only [frD, qe3] at hK ⊢; go_simp
        exact hK _ _ (Below.refl _ _) rfl
      | 6, _ =>
        clear a0 a1 a2 a3 a4 a5 a6 a7
        have qe3 : (vs 3) = .bool true := hd 3 (cm (by kernel_rfl)); have qe4 : (vs 4) = .int .i64 0 := hd 4 (cm (by kernel_rfl)); have qe5 : (vs 5) = .int .i64 0 := hd 5 (cm (by kernel_rfl))
        refine step_valg [(3, some 35), (4, some 36), (5, some 37)] (fun vΦ _ => vΦ = .bool true) rfl (by kernel_rfl) (fun _ _ h => h) rfl (wanted_some 35 rfl (by rfl) (by kernel_rfl) qe3) fun K hK => ?_; clear hd; simp only [frD, qe3, qe4, qe5] at hK ⊢; go_simp
        exact hK _ _ (Below.refl _ _) rfl
      | 7, _ =>
        clear a0 a1 a2 a3 a4 a5 a6 a7
        have qe3 : (vs 3) = .bool true := hd 3 (cm (by kernel_rfl)); have qe6 : (vs 6) = .bool true := hd 6 (cm (by kernel_rfl))
        refine step_val0 [(3, some 35), (6, some 38)] (fun vΦ _ => vΦ = .bool true) rfl (by kernel_rfl) rfl (fun _ _ h => h) rfl fun K hK => ?_; clear hd; simp only [frD, qe3, qe6] at hK ⊢; go_simp
        exact hK _ _ (Below.refl _ _) rfl
      | 8, _ =>
        clear a0 a1 a2 a3 a4 a5 a6 a7
        have qe3 : (vs 3) = .bool true := hd 3 (cm (by kernel_rfl)); have qe7 : (vs 7) = .bool true := hd 7 (cm (by kernel_rfl))
        refine step_val0 [(3, some 35), (7, some 39)] (fun vΦ _ => vΦ = .bool true) rfl (by kernel_rfl) rfl (fun _ _ h => h) rfl fun K hK => ?_; clear hd; simp only [frD, qe3, qe7] at hK ⊢; go_simp
        exact hK _ _ (Below.refl _ _) rfl
      | 9, _ =>
        have qe8 : (vs 8) = .bool true := hd 8 (cm (by kernel_rfl))
        refine step_valg [(8, some 40)] (fun vΦ _ => vΦ = .agg #[.bool b4, .slice A4 n4 c4]) rfl (by kernel_rfl) (fun _ _ h => h) rfl (wanted_some 40 rfl (by rfl) (by kernel_rfl) qe8) fun K hK => ?_; clear hd; simp only [frD, qe8] at hK ⊢; go_simp
        exact hK _ _ (Below.refl _ _) rfl
      | 10, _ =>
        clear a0 a1 a2 a3 a4 a5 a6 a7
        have qe8 : (vs 8) = .bool true := hd 8 (cm (by kernel_rfl)); have qe9 : (vs 9) = .agg #[.bool b4, .slice A4 n4 c4] := hd 9 (cm (by kernel_rfl))
        refine step_call (F := 49) (X := .func (.func 49) #[] #[]) (A := #[(vs 9)]) (B := #[.agg #[.bool b4, .slice A4 n4 c4]]) [(8, some 40), (9, some 41)] (fun vΦ _ => vΦ = .bool true) rfl (by kernel_rfl) (fun _ _ h => h) rfl (wanted_some 40 rfl (by rfl) (by kernel_rfl) qe8) rfl rfl (by kernel_rfl) rfl (by kernel_rfl) (by rw [qe9]) Tryz.func49 (by kernel_rfl) (by kernel_rfl) ?_
        refine ((rvalid_rep (S3.ii 1 rfl) (by omega))).mono ?_; rintro e w4 ⟨rfl, hk4⟩; exact ⟨_, rfl, hk4, rfl⟩
      | 11, _ =>
        clear a0 a1 a2 a3 a4 a5 a6 a7
        have qe8 : (vs 8) = .bool true := hd 8 (cm (by kernel_rfl)); have qe10 : (vs 10) = .bool true := hd 10 (cm (by kernel_rfl))
        refine step_val0 [(8, some 40), (10, some 42)] (fun vΦ _ => vΦ = .bool true) rfl (by kernel_rfl) rfl (fun _ _ h => h) rfl fun K hK => ?_; clear hd; simp only [frD, qe8, qe10] at hK ⊢; go_simp
        exact hK _ _ (Below.refl _ _) rfl
      | 12, _ =>
        clear a0 a1 a2 a3 a4 a5 a6 a7
        have qe10 : (vs 10) = .bool true := hd 10 (cm (by kernel_rfl)); have qe11 : (vs 11) = .bool true := hd 11 (cm (by kernel_rfl))
        refine step_val0 [(10, some 42), (11, some 43)] (fun vΦ _ => vΦ = .bool true) rfl (by kernel_rfl) rfl (fun _ _ h => h) rfl fun K hK => ?_; clear hd; simp only [frD, qe10, qe11] at hK ⊢; go_simp
        exact hK _ _ (Below.refl _ _) rfl
      | 13, _ =>
        have qe12 : (vs 12) = .bool true := hd 12 (cm (by kernel_rfl))
        refine step_valg [(12, some 44)] (fun vΦ _ => vΦ = .agg #[.bool b5, .slice A5 n5 c5]) rfl (by kernel_rfl) (fun _ _ h => h) rfl (wanted_some 44 rfl (by rfl) (by kernel_rfl) qe12) fun K hK => ?_; clear hd; simp only [frD, qe12] at hK ⊢; go_simp
        exact hK _ _ (Below.refl _ _) rfl
      | 14, _ =>
        clear a0 a1 a2 a3 a4 a5 a6 a7
        have qe12 : (vs 12) = .bool true := hd 12 (cm (by kernel_rfl)); have qe13 : (vs 13) = .agg #[.bool b5, .slice A5 n5 c5] := hd 13 (cm (by kernel_rfl))
        refine step_call (F := 49) (X := .func (.func 49) #[] #[]) (A := #[(vs 13)]) (B := #[.agg #[.bool b5, .slice A5 n5 c5]]) [(12, some 44), (13, some 45)] (fun vΦ _ => vΦ = .bool true) rfl (by kernel_rfl) (fun _ _ h => h) rfl (wanted_some 44 rfl (by rfl) (by kernel_rfl) qe12) rfl rfl (by kernel_rfl) rfl (by kernel_rfl) (by rw [qe13]) Tryz.func49 (by kernel_rfl) (by kernel_rfl) ?_
        refine ((rvalid_rep (S3.ii 0 rfl) (by omega))).mono ?_; rintro e w4 ⟨rfl, hk4⟩; exact ⟨_, rfl, hk4, rfl⟩
      | 15, _ =>
        clear a0 a1 a2 a3 a4 a5 a6 a7
        have qe12 : (vs 12) = .bool true := hd 12 (cm (by kernel_rfl)); have qe14 : (vs 14) = .bool true := hd 14 (cm (by kernel_rfl))
        refine step_val0 [(12, some 44), (14, some 46)] (fun vΦ _ => vΦ = .bool true) rfl (by kernel_rfl) rfl (fun _ _ h => h) rfl fun K hK => ?_; clear hd; simp only [frD, qe12, qe14] at hK ⊢; go_simp
        exact hK _ _ (Below.refl _ _) rfl
      | 16, _ =>
        clear a0 a1 a2 a3 a4 a5 a6 a7
        have qe14 : (vs 14) = .bool true := hd 14 (cm (by kernel_rfl)); have qe15 : (vs 15) = .bool true := hd 15 (cm (by kernel_rfl))
        refine step_val0 [(14, some 46), (15, some 47)] (fun vΦ _ => vΦ = .bool true) rfl (by kernel_rfl) rfl (fun _ _ h => h) rfl fun K hK => ?_; clear hd; simp only [frD, qe14, qe15] at hK ⊢; go_simp
        exact hK _ _ (Below.refl _ _) rfl
      | 17, _ =>
        have qe16 : (vs 16) = .bool true := hd 16 (cm (by kernel_rfl))
        refine step_valg [(16, some 48)] (fun vΦ _ => vΦ = .agg #[.bool b4, .slice A4 n4 c4]) rfl (by kernel_rfl) (fun _ _ h => h) rfl (wanted_some 48 rfl (by rfl) (by kernel_rfl) qe16) fun K hK => ?_; clear hd; simp only [frD, qe16] at hK ⊢; go_simp
        exact hK _ _ (Below.refl _ _) rfl
      | 18, _ =>
        have qe16 : (vs 16) = .bool true := hd 16 (cm (by kernel_rfl))
        refine step_valg [(16, some 48)] (fun vΦ _ => vΦ = .agg #[.bool b3, .slice A3 n3 c3, .bool d3, .slice B3 m3 e3]) rfl (by kernel_rfl) (fun _ _ h => h) rfl (wanted_some 48 rfl (by rfl) (by kernel_rfl) qe16) fun K hK => ?_; clear hd; simp only [frD, qe16] at hK ⊢; go_simp
        exact hK _ _ (Below.refl _ _) rfl
      | 19, _ =>
        clear a0 a1 a2 a3 a4 a5 a6 a7
        have qe16 : (vs 16) = .bool true := hd 16 (cm (by kernel_rfl)); have qe18 : (vs 18) = .agg #[.bool b3, .slice A3 n3 c3, .bool d3, .slice B3 m3 e3] := hd 18 (cm (by kernel_rfl))
        refine step_call (F := 50) (X := .func (.func 50) #[] #[]) (A := #[(vs 18)]) (B := #[.agg #[.bool b3, .slice A3 n3 c3, .bool d3, .slice B3 m3 e3]]) [(16, some 48), (18, some 50)] (fun vΦ wΦ => IntRep wΦ vΦ (x.floor)) rfl (by kernel_rfl) (fun _ _ h => h) rfl (wanted_some 48 rfl (by rfl) (by kernel_rfl) qe16) rfl rfl (by kernel_rfl) rfl (by kernel_rfl) (by rw [qe18]) Tryz.func50 (by kernel_rfl) (by kernel_rfl) ?_
        refine ((gfloor_num ((S3.li 2 rfl).num))).mono ?_; rintro e w4 ⟨U, rfl, hr, hk4⟩; exact ⟨_, rfl, hk4, hr⟩
      | 20, _ =>
        clear a0 a1 a2 a3 a4 a5 a6 a7
        have qe16 : (vs 16) = .bool true := hd 16 (cm (by kernel_rfl)); have qe17 : (vs 17) = .agg #[.bool b4, .slice A4 n4 c4] := hd 17 (cm (by kernel_rfl)); have h19 : IntRep w3 (vs 19) (x.floor) := hd 19 (cm (by kernel_rfl))
        refine step_call (F := 44) (X := .func (.func 44) #[] #[]) (A := #[(vs 17), (vs 19)]) (B := #[.agg #[.bool b4, .slice A4 n4 c4], (vs 19)]) [(16, some 48), (17, some 49), (19, some 51)] (fun vΦ _ => vΦ = .int .i64 0) rfl (by kernel_rfl) (fun _ _ h => h) rfl (wanted_some 48 rfl (by rfl) (by kernel_rfl) qe16) rfl rfl (by kernel_rfl) rfl (by kernel_rfl) (by rw [qe17]) Tryz.func44 (by kernel_rfl) (by kernel_rfl) ?_
        refine ((rcompare_s ((S3.ii 1 rfl).num (by omega)) (h19.num (by omega)) (by rw [Int.sub_self]))).mono ?_; rintro e w4 ⟨rfl, hk4⟩; exact ⟨_, rfl, hk4, rfl⟩
      | 21, _ =>
        clear a0 a1 a2 a3 a4 a5 a6 a7
        have qe16 : (vs 16) = .bool true := hd 16 (cm (by kernel_rfl)); have qe20 : (vs 20) = .int .i64 0 := hd 20 (cm (by kernel_rfl))
        refine step_valg [(16, some 48), (20, some 52)] (fun vΦ _ => vΦ = .bool true) rfl (by kernel_rfl) (fun _ _ h => h) rfl (wanted_some 48 rfl (by rfl) (by kernel_rfl) qe16) fun K hK => ?_; clear hd; simp only [frD, qe16, qe20] at hK ⊢; go_simp
        exact hK _ _ (Below.refl _ _) rfl
      | 22, _ =>
        clear a0 a1 a2 a3 a4 a5 a6 a7
        have qe16 : (vs 16) = .bool true := hd 16 (cm (by kernel_rfl)); have qe21 : (vs 21) = .bool true := hd 21 (cm (by kernel_rfl))
        refine step_val0 [(16, some 48), (21, some 53)] (fun vΦ _ => vΦ = .bool true) rfl (by kernel_rfl) rfl (fun _ _ h => h) rfl fun K hK => ?_; clear hd; simp only [frD, qe16, qe21] at hK ⊢; go_simp
        exact hK _ _ (Below.refl _ _) rfl
      | 23, _ =>
        clear a0 a1 a2 a3 a4 a5 a6 a7
        have qe20 : (vs 20) = .int .i64 0 := hd 20 (cm (by kernel_rfl)); have qe22 : (vs 22) = .bool true := hd 22 (cm (by kernel_rfl))
        refine step_val0 [(20, some 52), (22, some 54)] (fun vΦ _ => vΦ = .bool true) rfl (by kernel_rfl) rfl (fun _ _ h => h) rfl fun K hK => ?_; clear hd; simp only [frD, qe20, qe22] at hK ⊢; go_simp
        exact hK _ _ (Below.refl _ _) rfl
      | 24, _ =>
        have qe23 : (vs 23) = .bool true := hd 23 (cm (by kernel_rfl))
        refine step_valg [(23, some 55)] (fun vΦ _ => vΦ = .agg #[.bool b5, .slice A5 n5 c5]) rfl (by kernel_rfl) (fun _ _ h => h) rfl (wanted_some 55 rfl (by rfl) (by kernel_rfl) qe23) fun K hK => ?_; clear hd; simp only [frD, qe23] at hK ⊢; go_simp
        exact hK _ _ (Below.refl _ _) rfl
      | 25, _ =>
        have qe23 : (vs 23) = .bool true := hd 23 (cm (by kernel_rfl))
        refine step_valg [(23, some 55)] (fun vΦ _ => vΦ = .agg #[.bool b3, .slice A3 n3 c3, .bool d3, .slice B3 m3 e3]) rfl (by kernel_rfl) (fun _ _ h => h) rfl (wanted_some 55 rfl (by rfl) (by kernel_rfl) qe23) fun K hK => ?_; clear hd; simp only [frD, qe23] at hK ⊢; go_simp
        exact hK _ _ (Below.refl _ _) rfl
      | 26, _ =>
        clear a0 a1 a2 a3 a4 a5 a6 a7
        have qe23 : (vs 23) = .bool true := hd 23 (cm (by kernel_rfl)); have qe25 : (vs 25) = .agg #[.bool b3, .slice A3 n3 c3, .bool d3, .slice B3 m3 e3] := hd 25 (cm (by kernel_rfl))
        refine step_call (F := 51) (X := .func (.func 51) #[] #[]) (A := #[(vs 25)]) (B := #[.agg #[.bool b3, .slice A3 n3 c3, .bool d3, .slice B3 m3 e3]]) [(23, some 55), (25, some 57)] (fun vΦ wΦ => IntRep wΦ vΦ (x.ceil)) rfl (by kernel_rfl) (fun _ _ h => h) rfl (wanted_some 55 rfl (by rfl) (by kernel_rfl) qe23) rfl rfl (by kernel_rfl) rfl (by kernel_rfl) (by rw [qe25]) Tryz.func51 (by kernel_rfl) (by kernel_rfl) ?_
        refine ((gceil_num ((S3.li 2 rfl).num))).mono ?_; rintro e w4 ⟨U, rfl, hr, hk4⟩; exact ⟨_, rfl, hk4, hr⟩
      | 27, _ =>
        clear a0 a1 a2 a3 a4 a5 a6 a7
        have qe23 : (vs 23) = .bool true := hd 23 (cm (by kernel_rfl)); have qe24 : (vs 24) = .agg #[.bool b5, .slice A5 n5 c5] := hd 24 (cm (by kernel_rfl)); have h26 : IntRep w3 (vs 26) (x.ceil) := hd 26 (cm (by kernel_rfl))
        refine step_call (F := 44) (X := .func (.func 44) #[] #[]) (A := #[(vs 24), (vs 26)]) (B := #[.agg #[.bool b5, .slice A5 n5 c5], (vs 26)]) [(23, some 55), (24, some 56), (26, some 58)] (fun vΦ _ => vΦ = .int .i64 0) rfl (by kernel_rfl) (fun _ _ h => h) rfl (wanted_some 55 rfl (by rfl) (by kernel_rfl) qe23) rfl rfl (by kernel_rfl) rfl (by kernel_rfl) (by rw [qe24]) Tryz.func44 (by kernel_rfl) (by kernel_rfl) ?_
        refine ((rcompare_s ((S3.ii 0 rfl).num (by omega)) (h26.num (by omega)) (by rw [Int.sub_self]))).mono ?_; rintro e w4 ⟨rfl, hk4⟩; exact ⟨_, rfl, hk4, rfl⟩
      | 28, _ =>
        clear a0 a1 a2 a3 a4 a5 a6 a7
        have qe23 : (vs 23) = .bool true := hd 23 (cm (by kernel_rfl)); have qe27 : (vs 27) = .int .i64 0 := hd 27 (cm (by kernel_rfl))
        refine step_valg [(23, some 55), (27, some 59)] (fun vΦ _ => vΦ = .bool true) rfl (by kernel_rfl) (fun _ _ h => h) rfl (wanted_some 55 rfl (by rfl) (by kernel_rfl) qe23) fun K hK => ?_; clear hd; simp only [frD, qe23, qe27] at hK ⊢; go_simp
        exact hK _ _ (Below.refl _ _) rfl
      | 29, _ =>
        clear a0 a1 a2 a3 a4 a5 a6 a7
        have qe23 : (vs 23) = .bool true := hd 23 (cm (by kernel_rfl)); have qe28 : (vs 28) = .bool true := hd 28 (cm (by kernel_rfl))
        refine step_val0 [(23, some 55), (28, some 60)] (fun vΦ _ => vΦ = .bool true) rfl (by kernel_rfl) rfl (fun _ _ h => h) rfl fun K hK => ?_; clear hd; simp only [frD, qe23, qe28] at hK ⊢; go_simp
        exact hK _ _ (Below.refl _ _) rfl
      | i + 30, hi => exact absurd hi (by omega)
    · intro vs W8 hk3 hΦ _
      simp only [List.drop_succ_cons, List.drop_zero]
      rw [fr_frD, show (List.range 30).map _ = [(0, some 32), (1, some 33), (2, some 34), (3, some 35), (4, some 36), (5, some 37), (6, some 38), (7, some 39), (8, some 40), (9, some 41), (10, some 42), (11, some 43), (12, some 44), (13, some 45), (14, some 46), (15, some 47), (16, some 48), (17, some 49), (18, some 50), (19, some 51), (20, some 52), (21, some 53), (22, some 54), (23, some 55), (24, some 56), (25, some 57), (26, some 58), (27, some 59), (28, some 60), (29, some 61)] by kernel_rfl]
      have pb0 : (vs 0) = .string ⟨T.toArray⟩ := hΦ 0 (by decide)
      have pb1 : (vs 1) = .string ⟨T.toArray⟩ := hΦ 1 (by decide)
      have pb2 : (vs 2) = .bool true := hΦ 2 (by decide)
      have pb3 : (vs 3) = .bool true := hΦ 3 (by decide)
      have pb4 : (vs 4) = .int .i64 0 := hΦ 4 (by decide)
      have pb5 : (vs 5) = .int .i64 0 := hΦ 5 (by decide)
      have pb6 : (vs 6) = .bool true := hΦ 6 (by decide)
      have pb7 : (vs 7) = .bool true := hΦ 7 (by decide)
      have pb8 : (vs 8) = .bool true := hΦ 8 (by decide)
      have pb9 : (vs 9) = .agg #[.bool b4, .slice A4 n4 c4] := hΦ 9 (by decide)
      have pb10 : (vs 10) = .bool true := hΦ 10 (by decide)
      have pb11 : (vs 11) = .bool true := hΦ 11 (by decide)
      have pb12 : (vs 12) = .bool true := hΦ 12 (by decide)
      have pb13 : (vs 13) = .agg #[.bool b5, .slice A5 n5 c5] := hΦ 13 (by decide)
      have pb14 : (vs 14) = .bool true := hΦ 14 (by decide)
      have pb15 : (vs 15) = .bool true := hΦ 15 (by decide)
      have pb16 : (vs 16) = .bool true := hΦ 16 (by decide)
      have pb17 : (vs 17) = .agg #[.bool b4, .slice A4 n4 c4] := hΦ 17 (by decide)
      have pb18 : (vs 18) = .agg #[.bool b3, .slice A3 n3 c3, .bool d3, .slice B3 m3 e3] := hΦ 18 (by decide)
      have pb19 : IntRep W8 (vs 19) (x.floor) := hΦ 19 (by decide)
      have pb20 : (vs 20) = .int .i64 0 := hΦ 20 (by decide)
      have pb21 : (vs 21) = .bool true := hΦ 21 (by decide)
      have pb22 : (vs 22) = .bool true := hΦ 22 (by decide)
      have pb23 : (vs 23) = .bool true := hΦ 23 (by decide)
      have pb24 : (vs 24) = .agg #[.bool b5, .slice A5 n5 c5] := hΦ 24 (by decide)
      have pb25 : (vs 25) = .agg #[.bool b3, .slice A3 n3 c3, .bool d3, .slice B3 m3 e3] := hΦ 25 (by decide)
      have pb26 : IntRep W8 (vs 26) (x.ceil) := hΦ 26 (by decide)
      have pb27 : (vs 27) = .int .i64 0 := hΦ 27 (by decide)
      have pb28 : (vs 28) = .bool true := hΦ 28 (by decide)
      have pb29 : (vs 29) = .bool true := hΦ 29 (by decide)
      clear hΦ
      simp only [frD, pb0, pb1, pb2, pb3, pb4, pb5, pb6, pb7, pb8, pb9, pb10, pb11, pb12, pb13, pb14, pb15, pb16, pb17, pb18, pb20, pb21, pb22, pb23, pb24, pb25, pb27, pb28, pb29]
      simp only [Act.put, List.setIfInBounds_toArray, List.set_cons_zero, List.set_cons_succ]
      clear pb0 pb1 pb2 pb3 pb4 pb5 pb6 pb7 pb8 pb9 pb10 pb11 pb12 pb13 pb14 pb15 pb16 pb17 pb18 pb20 pb21 pb22 pb23 pb24 pb25 pb27 pb28 pb29
      generalize vs 19 = Upb19 at pb19 ⊢
      generalize vs 26 = Upb26 at pb26 ⊢
      replace S := S.drew.below hk3
      clear pb19
      clear pb26
      clear hk3
      go_wp2
      go_ret
      exact ⟨rfl, S.k⟩
theorem whole_walk {w : World} {V1 : Value} {x : Rat} {b1 : Bool} {k : Int} (h1 : RatS w V1 x b1) (ht : PowTab w) :
    Calls Tryz.prog 8 #[V1, .int .i64 k] w fun e w' => e = .returned (.bool true) ∧ Keeps w w' := by
  cases b1 with
  | false => exact wh_1 h1 ht
  | true =>
    by_cases h0 : k < 0 ∨ 100 < k
    · exact wh_bad h1 ht h0
    · obtain ⟨n, rfl⟩ : ∃ n : Nat, k = n := ⟨k.toNat, by omega⟩
      exact wh_good h1 ht (by omega) rfl
end Go.Proofs.YtmochehkkadjnaaGreatDoor
