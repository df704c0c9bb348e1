/- The walk of the law FractionText. -/
import Derived.Test.YtmochehkkadjnaaGreatDoorMgLawF
import Derived.Test.YtmochehkkadjnaaGreatDoorMgStab
import Derived.Test.YtmochehkkadjnaaGreatDoorMgFParse
import Derived.Test.YtmochehkkadjnaaGreatDoorGTxt
namespace Go.Proofs.YtmochehkkadjnaaGreatDoor
open Go.RowKit Go.Shelf

theorem ftext_t {w : World} {V1 : Value} {x : Rat} {T : List UInt8} (h1 : RatNum w V1 x) (ht : PowTab w) (hT : fracT x = T) : Calls Tryz.prog 75 #[V1] w fun e w' => e = .returned (.string ⟨T.toArray⟩) ∧ Keeps w w' := by
  subst hT; exact ftext_num h1 ht
theorem gtext_t {w : World} {V1 : Value} {x : Rat} {T : List UInt8} (h1 : RatNum w V1 x) (hx : szR x ≤ 20000) (hT : fracT x = T) : Calls Tryz.prog 77 #[V1] w fun e w' => e = .returned (.string ⟨T.toArray⟩) ∧ Keeps w w' := by
  subst hT; exact gtext_num h1 hx rfl rfl rfl rfl
theorem fparse_l {w : World} {T : List UInt8} {c : Int} {q : Rat} (hs : T.length ≤ 1000000) (hm : CutOk w) (ht : PowTab w) (h : fparse T = (c, q)) : Calls Tryz.prog 76 #[.string ⟨T.toArray⟩] w (RCode c q w) := by
  have := fparse_any (s := ⟨T.toArray⟩) (by rw [size_mk]; omega) hm ht
  rwa [show fparse (ByteArray.mk T.toArray).data.toList = (c, q) from h] at this
set_option maxRecDepth 100000 in
set_option maxHeartbeats 1000000 in
theorem ltx_1 {w : World} {V1 : Value} {x : Rat} (h1 : RatS w V1 x false) (ht : PowTab w) : Calls Tryz.prog 13 #[V1] w (fun e w' => e = .returned (.bool true) ∧ Keeps w w') := by
  obtain ⟨b3, A3, n3, c3, d3, B3, m3, e3, rfl⟩ := h1.open_
  have S := ((St.start w).addL h1)
  clear h1
  go_enter Tryz.func13, Tryz.ntmps13
  go_wp2_with fail
  replace S := (S.alloc 28 [.bool b3, .slice A3 n3 c3, .bool d3, .slice B3 m3 e3])
  obtain ⟨W1, eW, S⟩ := S.pack
  rw [eW]
  clear eW
  refine ((known_any _ (ht.keep S.k))).mono ?_
  rintro e W2 ⟨rfl, hk⟩
  replace S := S.below hk
  clear hk
  have r0_0 := S.c 0 0 rfl rfl
  have r0_1 := S.c 0 1 rfl rfl
  have r0_2 := S.c 0 2 rfl rfl
  have r0_3 := S.c 0 3 rfl rfl
  go_wp2_with fail
  refine ((lshort_b (S.li 0 rfl))).mono ?_
  rintro e W3 ⟨rfl, hk⟩
  replace S := S.below hk
  clear hk
  clear r0_0 r0_1 r0_2 r0_3
  go_wp2
  go_ret
  exact ⟨rfl, S.k⟩
set_option maxRecDepth 100000 in
set_option maxHeartbeats 4000000 in
theorem ltx_2 {w : World} {V1 : Value} {x : Rat} {T : List UInt8} (h1 : RatS w V1 x true) (ht : PowTab w) (hm : CutOk w) (hT : fracT x = T) (hl : (T.length : Int) ≤ 600) (hf : fparse T = (0, x)) : Calls Tryz.prog 13 #[V1] w (fun e w' => e = .returned (.bool true) ∧ Keeps w w') := by
  obtain ⟨b3, A3, n3, c3, d3, B3, m3, e3, rfl⟩ := h1.open_
  have z0 := h1.sz
  have HT := Lib.hid hT
  have HF := Lib.hid hf
  clear hT hf
  have S := ((St.start w).addL h1)
  clear h1
  go_enter Tryz.func13, Tryz.ntmps13
  go_wp2_with fail
  replace S := (S.alloc 28 [.bool b3, .slice A3 n3 c3, .bool d3, .slice B3 m3 e3])
  obtain ⟨W1, eW, S⟩ := S.pack
  rw [eW]
  clear eW
  refine ((known_any _ (ht.keep S.k))).mono ?_
  rintro e W2 ⟨rfl, hk⟩
  replace S := S.below hk
  clear hk
  have r0_0 := S.c 0 0 rfl rfl
  have r0_1 := S.c 0 1 rfl rfl
  have r0_2 := S.c 0 2 rfl rfl
  have r0_3 := S.c 0 3 rfl rfl
  go_wp2_with fail
  refine ((lshort_b (S.li 0 rfl))).mono ?_
  rintro e W3 ⟨rfl, hk⟩
  replace S := S.below hk
  clear hk
  clear r0_0 r0_1 r0_2 r0_3
  have r0_0 := S.c 0 0 rfl rfl
  have r0_1 := S.c 0 1 rfl rfl
  have r0_2 := S.c 0 2 rfl rfl
  have r0_3 := S.c 0 3 rfl rfl
  go_wp2_with fail
  refine ((ftext_t ((S.li 0 rfl).num) (ht.keep S.k) HT.out)).mono ?_
  rintro e W4 ⟨rfl, hk⟩
  replace S := S.below hk
  clear hk
  clear r0_0 r0_1 r0_2 r0_3
  go_wp2_with fail
  refine ((fparse_l (by omega) (hm.keep S.k) (ht.keep S.k) HF.out)).mono ?_
  rintro e W5 ⟨U5, rfl, hp, hk⟩
  rw [if_pos rfl] at hp
  obtain ⟨b4, A4, n4, c4, d4, B4, m4, e4, rfl⟩ := hp.open_
  replace S := (S.below hk).addQ hp
  clear hk hp
  go_upto_region 7 with fail
  replace S := (S.alloc 28 [.bool b4, .slice A4 n4 c4, .bool d4, .slice B4 m4 e4])
  obtain ⟨W6, eW, S⟩ := S.pack
  rw [eW]
  clear eW
  generalize W5.heap.size = P1 at *
  refine wp_region_steps (m := 14) rfl (by kernel_rfl) (fun iΦ vΦ wΦ => (List.getD [fun vΦ _ => vΦ = .string ⟨T.toArray⟩, fun vΦ _ => vΦ = .agg #[.bool b3, .slice A3 n3 c3, .bool d3, .slice B3 m3 e3], fun vΦ _ => vΦ = .string ⟨T.toArray⟩, fun vΦ _ => vΦ = .bool true, fun vΦ _ => vΦ = .bool true, fun vΦ _ => vΦ = .int .i64 0, fun vΦ _ => vΦ = .bool true, fun vΦ _ => vΦ = .bool true, fun vΦ _ => vΦ = .bool true, fun vΦ _ => vΦ = .agg #[.bool b4, .slice A4 n4 c4, .bool d4, .slice B4 m4 e4], fun vΦ _ => vΦ = .agg #[.bool b3, .slice A3 n3 c3, .bool d3, .slice B3 m3 e3], fun vΦ wΦ => RatRep wΦ vΦ (x), fun vΦ _ => vΦ = .bool true, fun vΦ _ => vΦ = .bool true] iΦ (fun _ _ => True)) vΦ wΦ) [] ?_ ?_ ?_
  · intro i v w w' _ h hk
    refine stabL_get ?_ i v w w' h hk
    exact stab_cons st_e (stab_cons st_e (stab_cons st_e (stab_cons st_e (stab_cons st_e (stab_cons st_e (stab_cons st_e (stab_cons st_e (stab_cons st_e (stab_cons st_e (stab_cons st_e (stab_cons st_q (stab_cons st_e (stab_cons st_e stab_nil)))))))))))))
  · intro i hi vs w3 hk3 hd
    have S3 := S.drew.below hk3
    have a0 := S3.c 1 0 rfl rfl
    have a1 := S3.c 1 1 rfl rfl
    have a2 := S3.c 1 2 rfl rfl
    have a3 := S3.c 1 3 rfl rfl
    have a4 := S3.c 0 0 rfl rfl
    have a5 := S3.c 0 1 rfl rfl
    have a6 := S3.c 0 2 rfl rfl
    have a7 := S3.c 0 3 rfl rfl
    match i, hi with
    | 0, _ =>
      clear a0 a1 a2 a3 a4 a5 a6 a7
      refine step_val0 [] (fun vΦ _ => vΦ = .string ⟨T.toArray⟩) rfl (by kernel_rfl) rfl (fun _ _ h => h) rfl fun K hK => ?_; clear hd; simp only [frD] at hK ⊢; go_simp
      exact hK _ _ (Below.refl _ _) rfl
    | 1, _ =>
      refine step_val0 [] (fun vΦ _ => vΦ = .agg #[.bool b3, .slice A3 n3 c3, .bool d3, .slice B3 m3 e3]) rfl (by kernel_rfl) rfl (fun _ _ h => h) rfl fun K hK => ?_; clear hd; simp only [frD] at hK ⊢; go_simp
      exact hK _ _ (Below.refl _ _) rfl
    | 2, _ =>
      clear a0 a1 a2 a3 a4 a5 a6 a7
      have qe1 : (vs 1) = .agg #[.bool b3, .slice A3 n3 c3, .bool d3, .slice B3 m3 e3] := hd 1 (cm (by kernel_rfl))
      refine step_call (F := 77) (X := .func (.func 77) #[] #[]) (A := #[(vs 1)]) (B := #[.agg #[.bool b3, .slice A3 n3 c3, .bool d3, .slice B3 m3 e3]]) [(1, some 19)] (fun vΦ _ => vΦ = .string ⟨T.toArray⟩) rfl (by kernel_rfl) (fun _ _ h => h) rfl (wanted_none rfl) rfl rfl (by kernel_rfl) rfl (by kernel_rfl) (by rw [qe1]) Tryz.func77 (by kernel_rfl) (by kernel_rfl) ?_
      refine ((gtext_t ((S3.li 1 rfl).num) (by omega) HT.out)).mono ?_; rintro e w4 ⟨rfl, hk4⟩; exact ⟨_, rfl, hk4, rfl⟩
    | 3, _ =>
      clear a0 a1 a2 a3 a4 a5 a6 a7
      have qe0 : (vs 0) = .string ⟨T.toArray⟩ := hd 0 (cm (by kernel_rfl)); have qe2 : (vs 2) = .string ⟨T.toArray⟩ := hd 2 (cm (by kernel_rfl))
      refine step_val0 [(0, some 18), (2, some 20)] (fun vΦ _ => vΦ = .bool true) rfl (by kernel_rfl) rfl (fun _ _ h => h) rfl fun K hK => ?_; clear hd; simp only [frD, qe0, qe2] at hK ⊢; go_simp
      exact hK _ _ (Below.refl _ _) rfl
    | 4, _ =>
      clear a0 a1 a2 a3 a4 a5 a6 a7
      have qe2 : (vs 2) = .string ⟨T.toArray⟩ := hd 2 (cm (by kernel_rfl)); have qe3 : (vs 3) = .bool true := hd 3 (cm (by kernel_rfl))
      refine step_val0 [(2, some 20), (3, some 21)] (fun vΦ _ => vΦ = .bool true) rfl (by kernel_rfl) rfl (fun _ _ h => h) rfl fun K hK => ?_; clear hd; simp only [frD, qe2, qe3] at hK ⊢; go_simp
      exact hK _ _ (Below.refl _ _) rfl
    | 5, _ =>
      clear a0 a1 a2 a3 a4 a5 a6 a7
      have qe4 : (vs 4) = .bool true := hd 4 (cm (by kernel_rfl))
      refine step_valg [(4, some 22)] (fun vΦ _ => vΦ = .int .i64 0) rfl (by kernel_rfl) (fun _ _ h => h) rfl (wanted_some 22 rfl (by rfl) (by kernel_rfl) qe4) fun K hK => ?_; clear hd; simp only [frD, qe4] at hK ⊢; go_simp
      exact hK _ _ (Below.refl _ _) rfl
    | 6, _ =>
      clear a0 a1 a2 a3 a4 a5 a6 a7
      have qe4 : (vs 4) = .bool true := hd 4 (cm (by kernel_rfl)); have qe5 : (vs 5) = .int .i64 0 := hd 5 (cm (by kernel_rfl))
      refine step_valg [(4, some 22), (5, some 23)] (fun vΦ _ => vΦ = .bool true) rfl (by kernel_rfl) (fun _ _ h => h) rfl (wanted_some 22 rfl (by rfl) (by kernel_rfl) qe4) fun K hK => ?_; clear hd; simp only [frD, qe4, qe5] at hK ⊢; go_simp
      exact hK _ _ (Below.refl _ _) rfl
    | 7, _ =>
      clear a0 a1 a2 a3 a4 a5 a6 a7
      have qe4 : (vs 4) = .bool true := hd 4 (cm (by kernel_rfl)); have qe6 : (vs 6) = .bool true := hd 6 (cm (by kernel_rfl))
      refine step_val0 [(4, some 22), (6, some 24)] (fun vΦ _ => vΦ = .bool true) rfl (by kernel_rfl) rfl (fun _ _ h => h) rfl fun K hK => ?_; clear hd; simp only [frD, qe4, qe6] at hK ⊢; go_simp
      exact hK _ _ (Below.refl _ _) rfl
    | 8, _ =>
      clear a0 a1 a2 a3 a4 a5 a6 a7
      have qe4 : (vs 4) = .bool true := hd 4 (cm (by kernel_rfl)); have qe7 : (vs 7) = .bool true := hd 7 (cm (by kernel_rfl))
      refine step_val0 [(4, some 22), (7, some 25)] (fun vΦ _ => vΦ = .bool true) rfl (by kernel_rfl) rfl (fun _ _ h => h) rfl fun K hK => ?_; clear hd; simp only [frD, qe4, qe7] at hK ⊢; go_simp
      exact hK _ _ (Below.refl _ _) rfl
    | 9, _ =>
      have qe8 : (vs 8) = .bool true := hd 8 (cm (by kernel_rfl))
      refine step_valg [(8, some 26)] (fun vΦ _ => vΦ = .agg #[.bool b4, .slice A4 n4 c4, .bool d4, .slice B4 m4 e4]) rfl (by kernel_rfl) (fun _ _ h => h) rfl (wanted_some 26 rfl (by rfl) (by kernel_rfl) qe8) fun K hK => ?_; clear hd; simp only [frD, qe8] at hK ⊢; go_simp
      exact hK _ _ (Below.refl _ _) rfl
    | 10, _ =>
      have qe8 : (vs 8) = .bool true := hd 8 (cm (by kernel_rfl))
      refine step_valg [(8, some 26)] (fun vΦ _ => vΦ = .agg #[.bool b3, .slice A3 n3 c3, .bool d3, .slice B3 m3 e3]) rfl (by kernel_rfl) (fun _ _ h => h) rfl (wanted_some 26 rfl (by rfl) (by kernel_rfl) qe8) fun K hK => ?_; clear hd; simp only [frD, qe8] at hK ⊢; go_simp
      exact hK _ _ (Below.refl _ _) rfl
    | 11, _ =>
      clear a0 a1 a2 a3 a4 a5 a6 a7
      have qe8 : (vs 8) = .bool true := hd 8 (cm (by kernel_rfl)); have qe10 : (vs 10) = .agg #[.bool b3, .slice A3 n3 c3, .bool d3, .slice B3 m3 e3] := hd 10 (cm (by kernel_rfl))
      refine step_call (F := 27) (X := .func (.func 27) #[] #[]) (A := #[(vs 10)]) (B := #[.agg #[.bool b3, .slice A3 n3 c3, .bool d3, .slice B3 m3 e3]]) [(8, some 26), (10, some 28)] (fun vΦ wΦ => RatRep wΦ vΦ (x)) rfl (by kernel_rfl) (fun _ _ h => h) rfl (wanted_some 26 rfl (by rfl) (by kernel_rfl) qe8) rfl rfl (by kernel_rfl) rfl (by kernel_rfl) (by rw [qe10]) Tryz.func27 (by kernel_rfl) (by kernel_rfl) ?_
      refine ((gvalue_num ((S3.li 1 rfl).num))).mono ?_; rintro e w4 ⟨U, rfl, hr, hk4⟩; exact ⟨_, rfl, hk4, hr⟩
    | 12, _ =>
      clear a0 a1 a2 a3 a4 a5 a6 a7
      have qe8 : (vs 8) = .bool true := hd 8 (cm (by kernel_rfl)); have qe9 : (vs 9) = .agg #[.bool b4, .slice A4 n4 c4, .bool d4, .slice B4 m4 e4] := hd 9 (cm (by kernel_rfl)); have h11 : RatRep w3 (vs 11) (x) := hd 11 (cm (by kernel_rfl))
      refine step_call (F := 21) (X := .func (.func 21) #[] #[]) (A := #[(vs 9), (vs 11)]) (B := #[.agg #[.bool b4, .slice A4 n4 c4, .bool d4, .slice B4 m4 e4], (vs 11)]) [(8, some 26), (9, some 27), (11, some 29)] (fun vΦ _ => vΦ = .bool true) rfl (by kernel_rfl) (fun _ _ h => h) rfl (wanted_some 26 rfl (by rfl) (by kernel_rfl) qe8) rfl rfl (by kernel_rfl) rfl (by kernel_rfl) (by rw [qe9]) Tryz.func21 (by kernel_rfl) (by kernel_rfl) ?_
      refine ((gsame_s (b := true) (S3.qi 0 rfl) h11 (by omega) (decide_eq_true rfl))).mono ?_; rintro e w4 ⟨rfl, hk4⟩; exact ⟨_, rfl, hk4, rfl⟩
    | 13, _ =>
      clear a0 a1 a2 a3 a4 a5 a6 a7
      have qe8 : (vs 8) = .bool true := hd 8 (cm (by kernel_rfl)); have qe12 : (vs 12) = .bool true := hd 12 (cm (by kernel_rfl))
      refine step_val0 [(8, some 26), (12, some 30)] (fun vΦ _ => vΦ = .bool true) rfl (by kernel_rfl) rfl (fun _ _ h => h) rfl fun K hK => ?_; clear hd; simp only [frD, qe8, qe12] at hK ⊢; go_simp
      exact hK _ _ (Below.refl _ _) rfl
    | i + 14, hi => exact absurd hi (by omega)
  · intro vs W7 hk3 hΦ _
    simp only [List.drop_succ_cons, List.drop_zero]
    rw [fr_frD, show (List.range 14).map _ = [(0, some 18), (1, some 19), (2, some 20), (3, some 21), (4, some 22), (5, some 23), (6, some 24), (7, some 25), (8, some 26), (9, some 27), (10, some 28), (11, some 29), (12, some 30), (13, some 31)] by kernel_rfl]
    have pa0 : (vs 0) = .string ⟨T.toArray⟩ := hΦ 0 (by decide)
    have pa1 : (vs 1) = .agg #[.bool b3, .slice A3 n3 c3, .bool d3, .slice B3 m3 e3] := hΦ 1 (by decide)
    have pa2 : (vs 2) = .string ⟨T.toArray⟩ := hΦ 2 (by decide)
    have pa3 : (vs 3) = .bool true := hΦ 3 (by decide)
    have pa4 : (vs 4) = .bool true := hΦ 4 (by decide)
    have pa5 : (vs 5) = .int .i64 0 := hΦ 5 (by decide)
    have pa6 : (vs 6) = .bool true := hΦ 6 (by decide)
    have pa7 : (vs 7) = .bool true := hΦ 7 (by decide)
    have pa8 : (vs 8) = .bool true := hΦ 8 (by decide)
    have pa9 : (vs 9) = .agg #[.bool b4, .slice A4 n4 c4, .bool d4, .slice B4 m4 e4] := hΦ 9 (by decide)
    have pa10 : (vs 10) = .agg #[.bool b3, .slice A3 n3 c3, .bool d3, .slice B3 m3 e3] := hΦ 10 (by decide)
    have pa11 : RatRep W7 (vs 11) (x) := hΦ 11 (by decide)
    have pa12 : (vs 12) = .bool true := hΦ 12 (by decide)
    have pa13 : (vs 13) = .bool true := hΦ 13 (by decide)
    clear hΦ
    simp only [frD, pa0, pa1, pa2, pa3, pa4, pa5, pa6, pa7, pa8, pa9, pa10, pa12, pa13]
    simp only [Act.put, List.setIfInBounds_toArray, List.set_cons_zero, List.set_cons_succ]
    clear pa0 pa1 pa2 pa3 pa4 pa5 pa6 pa7 pa8 pa9 pa10 pa12 pa13
    generalize vs 11 = Upa11 at pa11 ⊢
    replace S := S.drew.below hk3
    clear pa11
    clear hk3
    go_wp2
    go_ret
    exact ⟨rfl, S.k⟩
theorem ltext_walk {w : World} {V1 : Value} {x : Rat} {b1 : Bool} (h1 : RatS w V1 x b1) (hm : CutOk w) (ht : PowTab w) :
    Calls Tryz.prog 13 #[V1] w fun e w' => e = .returned (.bool true) ∧ Keeps w w' := by
  cases b1 with
  | false => exact ltx_1 h1 ht
  | true =>
    have hz := h1.sz
    have v1 := textL_le x.num
    have v2 := textL_le (x.den : Int)
    have v3 := szR_num hz
    have v4 := szR_den hz
    have hl : (fracT x).length ≤ 600 := by
      unfold fracT
      rw [List.length_append]
      split
      · simp; omega
      · rw [List.length_cons]; omega
    exact ltx_2 h1 ht hm rfl (by omega) (fparse_text rfl hl)
end Go.Proofs.YtmochehkkadjnaaGreatDoor
