/- The walk of the law FractionNoSimpler. -/
import Derived.Test.YtmochehkkadjnaaGreatDoorGRest
import Derived.Test.YtmochehkkadjnaaGreatDoorMgStab
import Derived.Test.YtmochehkkadjnaaGreatDoorStab2
import Derived.Test.YtmochehkkadjnaaGreatDoorRegB
namespace Go.Proofs.YtmochehkkadjnaaGreatDoor
open Go.RowKit Go.Shelf

theorem lenI_i64 {z : Int} (h : -9223372036854775808 ≤ z ∧ z ≤ 9223372036854775807) : lenI z ≤ 3 := dig_length_le (n := z.natAbs) (k := 3) (by omega)
theorem ns_le {X Y : Rat} {s : Int} (h : cmpR X Y = s) (t : decide (0 < s) = false) : X ≤ Y := (cmpR_le X Y).1 (by have := of_decide_eq_false t; omega)
theorem ns_gt {X Y : Rat} {s : Int} (h : cmpR X Y = s) (t : decide (0 < s) = true) : Y ≤ X := Rat.le_of_lt ((cmpR_pos X Y).1 (by have := of_decide_eq_true t; omega))
theorem ns_c2 {X Y : Rat} {s : Int} (h : X ≤ Y) (e : cmpR X (simV X Y) = s) : decide (0 < s) = false := decide_eq_false (by have := (cmpR_le _ _).2 (simV_law h).1.1; omega)
theorem ns_c3 {X Y : Rat} {s : Int} (h : X ≤ Y) (e : cmpR (simV X Y) Y = s) : decide (0 < s) = false := decide_eq_false (by have := (cmpR_le _ _).2 (simV_law h).1.2; omega)
theorem ns_fin {X Y b : Rat} {s t u : Int} (h : X ≤ Y) (e1 : cmpR b X = s) (h1 : decide (s < 0) = false) (e2 : cmpR b Y = t) (h2 : decide (0 < t) = false) (e3 : (((simV X Y).den : Int) - (b.den : Int)).sign = u) : decide (u ≤ 0) = true := by
  have k1 : X ≤ b := (cmpR_le X b).1 (by have := of_decide_eq_false h1; rw [cmpR_neg]; omega)
  have k2 : b ≤ Y := (cmpR_le b Y).1 (by have := of_decide_eq_false h2; omega)
  have k3 := (simV_law h).2 b k1 k2
  refine decide_eq_true ?_
  rw [← e3]
  have : ¬ 0 < (((simV X Y).den : Int) - (b.den : Int)).sign := fun h => by have := (isgn_pos _).1 h; omega
  omega
set_option maxRecDepth 100000 in
set_option maxHeartbeats 16000000 in
theorem ns_main {w : World} {n0 n1 d0 d1 r0 r1 g0 g1 f0 f1 : Int} (ht : PowTab w) (hn0 : -32768 ≤ n0 ∧ n0 ≤ 32767) (hn1 : -32768 ≤ n1 ∧ n1 ≤ 32767) (hr0 : -9223372036854775808 ≤ r0 ∧ r0 ≤ 9223372036854775807) (hr1 : -9223372036854775808 ≤ r1 ∧ r1 ≤ 9223372036854775807) (q1 : IntKind.i64.wrap n0 = n0) (q2 : IntKind.i64.wrap n1 = n1) (q3 : IntKind.i64.wrap d0 = d0) (q4 : IntKind.i64.wrap d1 = d1) (q5 : d0.tmod 40 = g0) (q6 : d1.tmod 40 = g1) (q7 : IntKind.i64.wrap (1 + g0) = f0) (q8 : IntKind.i64.wrap (1 + g1) = f1) (hf0 : 1 ≤ f0 ∧ f0 ≤ 40) (hf1 : 1 ≤ f1 ∧ f1 ≤ 40) : Calls Tryz.prog 7 #[.agg #[.int .i16 n0, .int .i16 n1], .agg #[.int .u8 d0, .int .u8 d1], .agg #[.int .i64 r0, .int .i64 r1]] w (fun e w' => e = .returned (.bool true) ∧ Keeps w w') := by
  obtain ⟨X, hX⟩ : ∃ X, Rat.divInt n0 f0 = X := ⟨_, rfl⟩
  obtain ⟨Y, hY⟩ : ∃ Y, Rat.divInt n1 f1 = Y := ⟨_, rfl⟩
  have z0 : szR X ≤ 1 := by rw [← hX]; exact szR_small n0 f0 (by omega) (by omega) (by omega)
  have z1 : szR Y ≤ 1 := by rw [← hY]; exact szR_small n1 f1 (by omega) (by omega) (by omega)
  have HX := Lib.hid hX
  have HY := Lib.hid hY
  clear hX hY
  obtain ⟨s1, hs1⟩ : ∃ s, cmpR X Y = s := ⟨_, rfl⟩
  obtain ⟨s2, hs2⟩ : ∃ s, cmpR X (simV X Y) = s := ⟨_, rfl⟩
  obtain ⟨s3, hs3⟩ : ∃ s, cmpR (simV X Y) Y = s := ⟨_, rfl⟩
  obtain ⟨s4, hs4⟩ : ∃ s, cmpR (Rat.divInt r0 r1) X = s := ⟨_, rfl⟩
  obtain ⟨s5, hs5⟩ : ∃ s, cmpR (Rat.divInt r0 r1) Y = s := ⟨_, rfl⟩
  obtain ⟨s6, hs6⟩ : ∃ s, ((((simV X Y).den : Int)) - (((Rat.divInt r0 r1).den : Int))).sign = s := ⟨_, rfl⟩
  obtain ⟨s7, hs7⟩ : ∃ s, cmpR Y (simV Y X) = s := ⟨_, rfl⟩
  obtain ⟨s8, hs8⟩ : ∃ s, cmpR (simV Y X) X = s := ⟨_, rfl⟩
  obtain ⟨s9, hs9⟩ : ∃ s, ((((simV Y X).den : Int)) - (((Rat.divInt r0 r1).den : Int))).sign = s := ⟨_, rfl⟩
  have HS1 := Lib.hid hs1
  clear hs1
  have HS2 := Lib.hid hs2
  clear hs2
  have HS3 := Lib.hid hs3
  clear hs3
  have HS4 := Lib.hid hs4
  clear hs4
  have HS5 := Lib.hid hs5
  clear hs5
  have HS6 := Lib.hid hs6
  clear hs6
  have HS7 := Lib.hid hs7
  clear hs7
  have HS8 := Lib.hid hs8
  clear hs8
  have HS9 := Lib.hid hs9
  clear hs9
  have S := (St.start w)
  go_enter Tryz.func7, Tryz.ntmps7
  go_wp2_with fail
  replace S := (((S.alloc 48 [.int .i16 n0, .int .i16 n1]).alloc 49 [.int .u8 d0, .int .u8 d1]).alloc 25 [.int .i64 r0, .int .i64 r1])
  simp only [World.size_alloc] at S
  obtain ⟨W1, eW, S⟩ := S.pack
  rw [eW]
  clear eW
  refine ((known_any _ (ht.keep S.k))).mono ?_
  rintro e W2 ⟨rfl, hk⟩
  replace S := S.below hk
  clear hk
  go_upto_region 3 with fail
  refine wp_region_stepsB (m := 20) rfl (by kernel_rfl) (fun iΦ vΦ wΦ => (List.getD [fun vΦ _ => vΦ = .pointer (some ⟨w.heap.size, 0, none⟩), fun vΦ _ => vΦ = .int .i16 n0, fun vΦ _ => vΦ = .int .i64 n0, fun vΦ _ => vΦ = .pointer (some ⟨(w.heap.size + 1), 0, none⟩), fun vΦ _ => vΦ = .int .u8 d0, fun vΦ _ => vΦ = .int .i64 d0, fun vΦ _ => vΦ = .int .i64 g0, fun vΦ _ => vΦ = .int .i64 f0, fun vΦ wΦ => RatRep wΦ vΦ (X), fun vΦ _ => vΦ = .pointer (some ⟨w.heap.size, 1, none⟩), fun vΦ _ => vΦ = .int .i16 n1, fun vΦ _ => vΦ = .int .i64 n1, fun vΦ _ => vΦ = .pointer (some ⟨(w.heap.size + 1), 1, none⟩), fun vΦ _ => vΦ = .int .u8 d1, fun vΦ _ => vΦ = .int .i64 d1, fun vΦ _ => vΦ = .int .i64 g1, fun vΦ _ => vΦ = .int .i64 f1, fun vΦ wΦ => RatRep wΦ vΦ (Y), fun vΦ wΦ => ∃ b, vΦ = .pointer (some ⟨b, 0, none⟩) ∧ W2.heap.size ≤ b ∧ Own wΦ b 28 [.bool false, .slice none 0 0, .bool false, .slice none 0 0], fun vΦ wΦ => ∃ b, vΦ = .pointer (some ⟨b, 0, none⟩) ∧ W2.heap.size ≤ b ∧ Own wΦ b 28 [.bool false, .slice none 0 0, .bool false, .slice none 0 0]] iΦ (fun _ _ => True)) vΦ wΦ) [18, 19] ?_ ?_ ?_
  · intro i v w w' _ h hk
    refine stabL_get ?_ i v w w' h hk
    exact stab_cons st_e (stab_cons st_e (stab_cons st_e (stab_cons st_e (stab_cons st_e (stab_cons st_e (stab_cons st_e (stab_cons st_e (stab_cons st_q (stab_cons st_e (stab_cons st_e (stab_cons st_e (stab_cons st_e (stab_cons st_e (stab_cons st_e (stab_cons st_e (stab_cons st_e (stab_cons st_q (stab_cons st_a (stab_cons st_a stab_nil)))))))))))))))))))
  · intro i hi vs w3 hk3 hd
    have S3 := S.drew.below hk3
    have a0 := S3.c 2 0 rfl rfl
    have a1 := S3.c 2 1 rfl rfl
    have a2 := S3.c 1 0 rfl rfl
    have a3 := S3.c 1 1 rfl rfl
    match i, hi with
    | 0, _ =>
      refine step_val0 [] (fun vΦ _ => vΦ = .pointer (some ⟨w.heap.size, 0, none⟩)) rfl (by kernel_rfl) rfl (fun _ _ h => h) rfl fun K hK => ?_; clear hd; simp only [frD] at hK ⊢; go_simp
      exact hK _ _ (Below.refl _ _) rfl
    | 1, _ =>
      have qe0 : (vs 0) = .pointer (some ⟨w.heap.size, 0, none⟩) := hd 0 (cm (by kernel_rfl))
      refine step_val0 [(0, some 14)] (fun vΦ _ => vΦ = .int .i16 n0) rfl (by kernel_rfl) rfl (fun _ _ h => h) rfl fun K hK => ?_; clear hd; simp only [frD, qe0] at hK ⊢; go_simp
      exact hK _ _ (Below.refl _ _) rfl
    | 2, _ =>
      have qe1 : (vs 1) = .int .i16 n0 := hd 1 (cm (by kernel_rfl))
      refine step_val0 [(1, some 15)] (fun vΦ _ => vΦ = .int .i64 n0) rfl (by kernel_rfl) rfl (fun _ _ h => h) rfl fun K hK => ?_; clear hd; simp only [frD, qe1] at hK ⊢; go_simp
      exact hK _ _ (Below.refl _ _) rfl
    | 3, _ =>
      refine step_val0 [] (fun vΦ _ => vΦ = .pointer (some ⟨(w.heap.size + 1), 0, none⟩)) rfl (by kernel_rfl) rfl (fun _ _ h => h) rfl fun K hK => ?_; clear hd; simp only [frD] at hK ⊢; go_simp
      exact hK _ _ (Below.refl _ _) rfl
    | 4, _ =>
      have qe3 : (vs 3) = .pointer (some ⟨(w.heap.size + 1), 0, none⟩) := hd 3 (cm (by kernel_rfl))
      refine step_val0 [(3, some 17)] (fun vΦ _ => vΦ = .int .u8 d0) rfl (by kernel_rfl) rfl (fun _ _ h => h) rfl fun K hK => ?_; clear hd; simp only [frD, qe3] at hK ⊢; go_simp
      exact hK _ _ (Below.refl _ _) rfl
    | 5, _ =>
      have qe4 : (vs 4) = .int .u8 d0 := hd 4 (cm (by kernel_rfl))
      refine step_val0 [(4, some 18)] (fun vΦ _ => vΦ = .int .i64 d0) rfl (by kernel_rfl) rfl (fun _ _ h => h) rfl fun K hK => ?_; clear hd; simp only [frD, qe4] at hK ⊢; go_simp
      exact hK _ _ (Below.refl _ _) rfl
    | 6, _ =>
      have qe5 : (vs 5) = .int .i64 d0 := hd 5 (cm (by kernel_rfl))
      refine step_val0 [(5, some 19)] (fun vΦ _ => vΦ = .int .i64 g0) rfl (by kernel_rfl) rfl (fun _ _ h => h) rfl fun K hK => ?_; clear hd; simp only [frD, qe5] at hK ⊢; go_simp
      exact hK _ _ (Below.refl _ _) rfl
    | 7, _ =>
      have qe6 : (vs 6) = .int .i64 g0 := hd 6 (cm (by kernel_rfl))
      refine step_val0 [(6, some 20)] (fun vΦ _ => vΦ = .int .i64 f0) rfl (by kernel_rfl) rfl (fun _ _ h => h) rfl fun K hK => ?_; clear hd; simp only [frD, qe6] at hK ⊢; go_simp
      exact hK _ _ (Below.refl _ _) rfl
    | 8, _ =>
      have qe2 : (vs 2) = .int .i64 n0 := hd 2 (cm (by kernel_rfl)); have qe7 : (vs 7) = .int .i64 f0 := hd 7 (cm (by kernel_rfl))
      refine step_call (F := 42) (X := .func (.func 42) #[] #[]) (A := #[(vs 2), (vs 7)]) (B := #[.int .i64 n0, .int .i64 f0]) [(2, some 16), (7, some 21)] (fun vΦ wΦ => RatRep wΦ vΦ (X)) rfl (by kernel_rfl) (fun _ _ h => h) rfl (wanted_none rfl) rfl rfl (by kernel_rfl) rfl (by kernel_rfl) (by rw [qe2, qe7]) Tryz.func42 (by kernel_rfl) (by kernel_rfl) ?_
      refine ((rgives_eq (lof_num n0 f0 (by omega) (by omega) (by omega) (by omega) (by omega)) HX.out)).mono ?_; rintro e w4 ⟨U, rfl, hr, hk4⟩; exact ⟨_, rfl, hk4, hr⟩
    | 9, _ =>
      refine step_val0 [] (fun vΦ _ => vΦ = .pointer (some ⟨w.heap.size, 1, none⟩)) rfl (by kernel_rfl) rfl (fun _ _ h => h) rfl fun K hK => ?_; clear hd; simp only [frD] at hK ⊢; go_simp
      exact hK _ _ (Below.refl _ _) rfl
    | 10, _ =>
      have qe9 : (vs 9) = .pointer (some ⟨w.heap.size, 1, none⟩) := hd 9 (cm (by kernel_rfl))
      refine step_val0 [(9, some 23)] (fun vΦ _ => vΦ = .int .i16 n1) rfl (by kernel_rfl) rfl (fun _ _ h => h) rfl fun K hK => ?_; clear hd; simp only [frD, qe9] at hK ⊢; go_simp
      exact hK _ _ (Below.refl _ _) rfl
    | 11, _ =>
      have qe10 : (vs 10) = .int .i16 n1 := hd 10 (cm (by kernel_rfl))
      refine step_val0 [(10, some 24)] (fun vΦ _ => vΦ = .int .i64 n1) rfl (by kernel_rfl) rfl (fun _ _ h => h) rfl fun K hK => ?_; clear hd; simp only [frD, qe10] at hK ⊢; go_simp
      exact hK _ _ (Below.refl _ _) rfl
    | 12, _ =>
      refine step_val0 [] (fun vΦ _ => vΦ = .pointer (some ⟨(w.heap.size + 1), 1, none⟩)) rfl (by kernel_rfl) rfl (fun _ _ h => h) rfl fun K hK => ?_; clear hd; simp only [frD] at hK ⊢; go_simp
      exact hK _ _ (Below.refl _ _) rfl
    | 13, _ =>
      have qe12 : (vs 12) = .pointer (some ⟨(w.heap.size + 1), 1, none⟩) := hd 12 (cm (by kernel_rfl))
      refine step_val0 [(12, some 26)] (fun vΦ _ => vΦ = .int .u8 d1) rfl (by kernel_rfl) rfl (fun _ _ h => h) rfl fun K hK => ?_; clear hd; simp only [frD, qe12] at hK ⊢; go_simp
      exact hK _ _ (Below.refl _ _) rfl
    | 14, _ =>
      have qe13 : (vs 13) = .int .u8 d1 := hd 13 (cm (by kernel_rfl))
      refine step_val0 [(13, some 27)] (fun vΦ _ => vΦ = .int .i64 d1) rfl (by kernel_rfl) rfl (fun _ _ h => h) rfl fun K hK => ?_; clear hd; simp only [frD, qe13] at hK ⊢; go_simp
      exact hK _ _ (Below.refl _ _) rfl
    | 15, _ =>
      have qe14 : (vs 14) = .int .i64 d1 := hd 14 (cm (by kernel_rfl))
      refine step_val0 [(14, some 28)] (fun vΦ _ => vΦ = .int .i64 g1) rfl (by kernel_rfl) rfl (fun _ _ h => h) rfl fun K hK => ?_; clear hd; simp only [frD, qe14] at hK ⊢; go_simp
      exact hK _ _ (Below.refl _ _) rfl
    | 16, _ =>
      have qe15 : (vs 15) = .int .i64 g1 := hd 15 (cm (by kernel_rfl))
      refine step_val0 [(15, some 29)] (fun vΦ _ => vΦ = .int .i64 f1) rfl (by kernel_rfl) rfl (fun _ _ h => h) rfl fun K hK => ?_; clear hd; simp only [frD, qe15] at hK ⊢; go_simp
      exact hK _ _ (Below.refl _ _) rfl
    | 17, _ =>
      have h8 : RatRep w3 (vs 8) (X) := hd 8 (cm (by kernel_rfl)); have qe11 : (vs 11) = .int .i64 n1 := hd 11 (cm (by kernel_rfl)); have qe16 : (vs 16) = .int .i64 f1 := hd 16 (cm (by kernel_rfl))
      refine step_call (F := 42) (X := .func (.func 42) #[] #[]) (A := #[(vs 11), (vs 16)]) (B := #[.int .i64 n1, .int .i64 f1]) [(8, some 22), (11, some 25), (16, some 30)] (fun vΦ wΦ => RatRep wΦ vΦ (Y)) rfl (by kernel_rfl) (fun _ _ h => h) rfl (wanted_none rfl) rfl rfl (by kernel_rfl) rfl (by kernel_rfl) (by rw [qe11, qe16]) Tryz.func42 (by kernel_rfl) (by kernel_rfl) ?_
      refine ((rgives_eq (lof_num n1 f1 (by omega) (by omega) (by omega) (by omega) (by omega)) HY.out)).mono ?_; rintro e w4 ⟨U, rfl, hr, hk4⟩; exact ⟨_, rfl, hk4, hr⟩
    | 18, _ =>
      refine step_yes [] rfl (by kernel_rfl) fun K hK => ?_; simp only [frD] at hK ⊢; refine ⟨by rfl, ?_⟩; go_simp
      exact hK _ _ ⟨(Below.refl _ _).alloc (Nat.le_refl _) _, ⟨_, rfl, hk3.size, Own.new w3 _ _⟩, fun _ => ⟨rfl, by simp⟩⟩
    | 19, _ =>
      refine step_yes [] rfl (by kernel_rfl) fun K hK => ?_; simp only [frD] at hK ⊢; refine ⟨by rfl, ?_⟩; go_simp
      exact hK _ _ ⟨(Below.refl _ _).alloc (Nat.le_refl _) _, ⟨_, rfl, hk3.size, Own.new w3 _ _⟩, fun _ => ⟨rfl, by simp⟩⟩
    | i + 20, hi => exact absurd hi (by omega)
  · intro vs W3 hk3 hΦ hne
    simp only [List.drop_succ_cons, List.drop_zero]
    rw [fr_frD, show (List.range 20).map _ = [(0, some 14), (1, some 15), (2, some 16), (3, some 17), (4, some 18), (5, some 19), (6, some 20), (7, some 21), (8, some 22), (9, some 23), (10, some 24), (11, some 25), (12, some 26), (13, some 27), (14, some 28), (15, some 29), (16, some 30), (17, some 31), (18, some 7), (19, some 8)] by kernel_rfl]
    have pa0 : (vs 0) = .pointer (some ⟨w.heap.size, 0, none⟩) := hΦ 0 (by decide)
    have pa1 : (vs 1) = .int .i16 n0 := hΦ 1 (by decide)
    have pa2 : (vs 2) = .int .i64 n0 := hΦ 2 (by decide)
    have pa3 : (vs 3) = .pointer (some ⟨(w.heap.size + 1), 0, none⟩) := hΦ 3 (by decide)
    have pa4 : (vs 4) = .int .u8 d0 := hΦ 4 (by decide)
    have pa5 : (vs 5) = .int .i64 d0 := hΦ 5 (by decide)
    have pa6 : (vs 6) = .int .i64 g0 := hΦ 6 (by decide)
    have pa7 : (vs 7) = .int .i64 f0 := hΦ 7 (by decide)
    have pa8 : RatRep W3 (vs 8) (X) := hΦ 8 (by decide)
    have pa9 : (vs 9) = .pointer (some ⟨w.heap.size, 1, none⟩) := hΦ 9 (by decide)
    have pa10 : (vs 10) = .int .i16 n1 := hΦ 10 (by decide)
    have pa11 : (vs 11) = .int .i64 n1 := hΦ 11 (by decide)
    have pa12 : (vs 12) = .pointer (some ⟨(w.heap.size + 1), 1, none⟩) := hΦ 12 (by decide)
    have pa13 : (vs 13) = .int .u8 d1 := hΦ 13 (by decide)
    have pa14 : (vs 14) = .int .i64 d1 := hΦ 14 (by decide)
    have pa15 : (vs 15) = .int .i64 g1 := hΦ 15 (by decide)
    have pa16 : (vs 16) = .int .i64 f1 := hΦ 16 (by decide)
    have pa17 : RatRep W3 (vs 17) (Y) := hΦ 17 (by decide)
    have pa18 : ∃ b, (vs 18) = .pointer (some ⟨b, 0, none⟩) ∧ W2.heap.size ≤ b ∧ Own W3 b 28 [.bool false, .slice none 0 0, .bool false, .slice none 0 0] := hΦ 18 (by decide)
    have pa19 : ∃ b, (vs 19) = .pointer (some ⟨b, 0, none⟩) ∧ W2.heap.size ≤ b ∧ Own W3 b 28 [.bool false, .slice none 0 0, .bool false, .slice none 0 0] := hΦ 19 (by decide)
    clear hΦ
    obtain ⟨bpa18, qA18, hlA18, hOA18⟩ := pa18
    obtain ⟨bpa19, qA19, hlA19, hOA19⟩ := pa19
    simp only [frD, pa0, pa1, pa2, pa3, pa4, pa5, pa6, pa7, pa9, pa10, pa11, pa12, pa13, pa14, pa15, pa16, qA18, qA19]
    simp only [Act.put, List.setIfInBounds_toArray, List.set_cons_zero, List.set_cons_succ]
    clear pa0 pa1 pa2 pa3 pa4 pa5 pa6 pa7 pa9 pa10 pa11 pa12 pa13 pa14 pa15 pa16
    generalize vs 8 = Upa8 at pa8 ⊢
    generalize vs 17 = Upa17 at pa17 ⊢
    have SD := S.drew
    replace S := S.drew.box (S.drew.below hk3) hOA18 hlA18
    have nApa : bpa19 ≠ bpa18 := fun e => hne 19 18 (by decide) (by decide) (by simp) (by simp) (by decide) (by rw [qA19, qA18, e])
    have nBpa := nApa.symm
    replace S := SD.box2 S hOA19 hlA19 nApa
    clear qA18 hlA18 hOA18 qA19 hlA19 hOA19
    clear SD hne
    obtain ⟨b3, A3, n3, c3, d3, B3, m3, e3, rfl⟩ := pa8.open_
    replace S := S.addQ pa8
    clear pa8
    obtain ⟨b4, A4, n4, c4, d4, B4, m4, e4, rfl⟩ := pa17.open_
    replace S := S.addQ pa17
    clear pa17
    clear hk3
    have r3_0 := S.c 1 0 rfl rfl
    have f3_0 := S.f 1 0 rfl
    have r3_1 := S.c 1 1 rfl rfl
    have f3_1 := S.f 1 1 rfl
    have r3_2 := S.c 1 2 rfl rfl
    have f3_2 := S.f 1 2 rfl
    have r3_3 := S.c 1 3 rfl rfl
    have f3_3 := S.f 1 3 rfl
    have r4_0 := S.c 0 0 rfl rfl
    have f4_0 := S.f 0 0 rfl
    have r4_1 := S.c 0 1 rfl rfl
    have f4_1 := S.f 0 1 rfl
    have r4_2 := S.c 0 2 rfl rfl
    have f4_2 := S.f 0 2 rfl
    have r4_3 := S.c 0 3 rfl rfl
    have f4_3 := S.f 0 3 rfl
    go_upto_region 4 with fail
    replace S := ((S.put4 1 rfl rfl rfl (x' := .bool b3) (y' := .slice A3 n3 c3) (z' := .bool d3) (u' := .slice B3 m3 e3)).put4 0 rfl rfl rfl (x' := .bool b4) (y' := .slice A4 n4 c4) (z' := .bool d4) (u' := .slice B4 m4 e4))
    obtain ⟨W4, eW, S⟩ := S.pack
    rw [eW]
    clear eW
    clear r3_0 f3_0 r3_1 f3_1 r3_2 f3_2 r3_3 f3_3 r4_0 f4_0 r4_1 f4_1 r4_2 f4_2 r4_3 f4_3
    have r3_0 := S.c 1 0 rfl rfl
    have r3_1 := S.c 1 1 rfl rfl
    have r3_2 := S.c 1 2 rfl rfl
    have r3_3 := S.c 1 3 rfl rfl
    have r4_0 := S.c 0 0 rfl rfl
    have r4_1 := S.c 0 1 rfl rfl
    have r4_2 := S.c 0 2 rfl rfl
    have r4_3 := S.c 0 3 rfl rfl
    go_wp2_with fail
    refine ((gcompare_s ((S.qi 1 rfl).num (by omega)) ((S.qi 0 rfl).num (by omega)) (by omega) HS1.out)).mono ?_
    rintro e W5 ⟨rfl, hk⟩
    replace S := S.below hk
    clear hk
    clear r3_0 r3_1 r3_2 r3_3 r4_0 r4_1 r4_2 r4_3
    rcases Bool.eq_false_or_eq_true (decide (0 < s1)) with t1 | t1
    · skip
      have t2 : decide (0 < s7) = false := by exact ns_c2 (ns_gt HS1.out t1) HS7.out
      have t3 : decide (0 < s8) = false := by exact ns_c3 (ns_gt HS1.out t1) HS8.out
      have r3_0 := S.c 1 0 rfl rfl
      have f3_0 := S.f 1 0 rfl
      have r3_1 := S.c 1 1 rfl rfl
      have f3_1 := S.f 1 1 rfl
      have r3_2 := S.c 1 2 rfl rfl
      have f3_2 := S.f 1 2 rfl
      have r3_3 := S.c 1 3 rfl rfl
      have f3_3 := S.f 1 3 rfl
      have r4_0 := S.c 0 0 rfl rfl
      have f4_0 := S.f 0 0 rfl
      have r4_1 := S.c 0 1 rfl rfl
      have f4_1 := S.f 0 1 rfl
      have r4_2 := S.c 0 2 rfl rfl
      have f4_2 := S.f 0 2 rfl
      have r4_3 := S.c 0 3 rfl rfl
      have f4_3 := S.f 0 3 rfl
      go_upto_region 6 with fail
      replace S := ((S.put4 1 rfl rfl rfl (x' := .bool b4) (y' := .slice A4 n4 c4) (z' := .bool d4) (u' := .slice B4 m4 e4)).put4 0 rfl rfl rfl (x' := .bool b3) (y' := .slice A3 n3 c3) (z' := .bool d3) (u' := .slice B3 m3 e3))
      obtain ⟨W6, eW, S⟩ := S.pack
      rw [eW]
      clear eW
      clear r3_0 f3_0 r3_1 f3_1 r3_2 f3_2 r3_3 f3_3 r4_0 f4_0 r4_1 f4_1 r4_2 f4_2 r4_3 f4_3
      have r3_0 := S.c 1 0 rfl rfl
      have r3_1 := S.c 1 1 rfl rfl
      have r3_2 := S.c 1 2 rfl rfl
      have r3_3 := S.c 1 3 rfl rfl
      have r4_0 := S.c 0 0 rfl rfl
      have r4_1 := S.c 0 1 rfl rfl
      have r4_2 := S.c 0 2 rfl rfl
      have r4_3 := S.c 0 3 rfl rfl
      have hxy := ns_gt HS1.out t1
      have zs := simV_sz hxy
      have HC := Lib.hid (show simC Y X = 0 from if_neg (Rat.not_lt.2 hxy))
      go_wp2_with fail
      refine ((rcode_eq (fsimpl_num ((S.qi 0 rfl).num (by omega)) ((S.qi 1 rfl).num (by omega)) (by omega) (by omega)) HC.out rfl)).mono ?_
      rintro e W7 ⟨U7, rfl, hp, hk⟩
      rw [if_pos rfl] at hp
      obtain ⟨b5, A5, n5, c5, d5, B5, m5, e5, rfl⟩ := hp.open_
      replace S := (S.below hk).addQ hp
      clear hk hp
      clear r3_0 r3_1 r3_2 r3_3 r4_0 r4_1 r4_2 r4_3
      go_upto_region 7 with fail
      replace S := (S.alloc 28 [.bool b5, .slice A5 n5 c5, .bool d5, .slice B5 m5 e5])
      obtain ⟨W8, eW, S⟩ := S.pack
      rw [eW]
      clear eW
      generalize W7.heap.size = P1 at *
      have r5_0 := S.c 0 0 rfl rfl
      have r5_1 := S.c 0 1 rfl rfl
      have r5_2 := S.c 0 2 rfl rfl
      have r5_3 := S.c 0 3 rfl rfl
      go_wp2_with fail
      refine ((gvalid_rep (S.qi 0 rfl) (by omega))).mono ?_
      rintro e W9 ⟨rfl, hk⟩
      replace S := S.below hk
      clear hk
      clear r5_0 r5_1 r5_2 r5_3
      have r3_0 := S.c 2 0 rfl rfl
      have r3_1 := S.c 2 1 rfl rfl
      have r3_2 := S.c 2 2 rfl rfl
      have r3_3 := S.c 2 3 rfl rfl
      have r5_0 := S.c 0 0 rfl rfl
      have r5_1 := S.c 0 1 rfl rfl
      have r5_2 := S.c 0 2 rfl rfl
      have r5_3 := S.c 0 3 rfl rfl
      go_wp2_with fail
      refine ((gcompare_s ((S.qi 1 rfl).num (by omega)) ((S.qi 0 rfl).num (by omega)) (by omega) HS7.out)).mono ?_
      rintro e W10 ⟨rfl, hk⟩
      replace S := S.below hk
      clear hk
      clear r3_0 r3_1 r3_2 r3_3 r5_0 r5_1 r5_2 r5_3
      have r4_0 := S.c 1 0 rfl rfl
      have r4_1 := S.c 1 1 rfl rfl
      have r4_2 := S.c 1 2 rfl rfl
      have r4_3 := S.c 1 3 rfl rfl
      have r5_0 := S.c 0 0 rfl rfl
      have r5_1 := S.c 0 1 rfl rfl
      have r5_2 := S.c 0 2 rfl rfl
      have r5_3 := S.c 0 3 rfl rfl
      go_wp2_with fail
      refine ((gcompare_s ((S.qi 0 rfl).num (by omega)) ((S.qi 2 rfl).num (by omega)) (by omega) HS8.out)).mono ?_
      rintro e W11 ⟨rfl, hk⟩
      replace S := S.below hk
      clear hk
      clear r4_0 r4_1 r4_2 r4_3 r5_0 r5_1 r5_2 r5_3
      rcases Bool.eq_false_or_eq_true (decide (r1 < 1)) with t4 | t4
      · skip
        have r2_0 := S.c 3 0 rfl rfl
        have r2_1 := S.c 3 1 rfl rfl
        go_wp2
        go_ret
        first | exact ⟨rfl, S.k⟩ | exact ⟨by rw [ns_fin hxy HS4.out t8 HS5.out t9 HS6.out] <;> rfl, S.k⟩ | exact ⟨by rw [ns_fin hxy HS5.out t8 HS4.out t9 HS9.out] <;> rfl, S.k⟩
      · skip
        rcases Bool.eq_false_or_eq_true (decide (40 < r1)) with t5 | t5
        · skip
          have r2_0 := S.c 3 0 rfl rfl
          have r2_1 := S.c 3 1 rfl rfl
          go_wp2
          go_ret
          first | exact ⟨rfl, S.k⟩ | exact ⟨by rw [ns_fin hxy HS4.out t8 HS5.out t9 HS6.out] <;> rfl, S.k⟩ | exact ⟨by rw [ns_fin hxy HS5.out t8 HS4.out t9 HS9.out] <;> rfl, S.k⟩
        · skip
          rcases Bool.eq_false_or_eq_true (decide (1073741824 < r0)) with t6 | t6
          · skip
            have r2_0 := S.c 3 0 rfl rfl
            have r2_1 := S.c 3 1 rfl rfl
            go_wp2
            go_ret
            first | exact ⟨rfl, S.k⟩ | exact ⟨by rw [ns_fin hxy HS4.out t8 HS5.out t9 HS6.out] <;> rfl, S.k⟩ | exact ⟨by rw [ns_fin hxy HS5.out t8 HS4.out t9 HS9.out] <;> rfl, S.k⟩
          · skip
            rcases Bool.eq_false_or_eq_true (decide (r0 < -1073741824)) with t7 | t7
            · skip
              have r2_0 := S.c 3 0 rfl rfl
              have r2_1 := S.c 3 1 rfl rfl
              go_wp2
              go_ret
              first | exact ⟨rfl, S.k⟩ | exact ⟨by rw [ns_fin hxy HS4.out t8 HS5.out t9 HS6.out] <;> rfl, S.k⟩ | exact ⟨by rw [ns_fin hxy HS5.out t8 HS4.out t9 HS9.out] <;> rfl, S.k⟩
            · skip
              have r2_0 := S.c 3 0 rfl rfl
              have r2_1 := S.c 3 1 rfl rfl
              have hr2 : 1 ≤ r1 := by have := of_decide_eq_false t4; omega
              go_wp2_with fail
              refine ((lof_num r0 r1 (by omega) (by omega) (by omega) (by omega) (by omega))).mono ?_
              rintro e W12 ⟨U12, rfl, hp, hk⟩
              obtain ⟨b6, A6, n6, c6, d6, B6, m6, e6, rfl⟩ := hp.open_
              replace S := (S.below hk).addQ hp
              clear hk hp
              clear r2_0 r2_1
              go_upto_region 12 with fail
              replace S := (S.alloc 28 [.bool b6, .slice A6 n6 c6, .bool d6, .slice B6 m6 e6])
              obtain ⟨W13, eW, S⟩ := S.pack
              rw [eW]
              clear eW
              generalize W12.heap.size = P2 at *
              have r3_0 := S.c 3 0 rfl rfl
              have r3_1 := S.c 3 1 rfl rfl
              have r3_2 := S.c 3 2 rfl rfl
              have r3_3 := S.c 3 3 rfl rfl
              have r6_0 := S.c 0 0 rfl rfl
              have r6_1 := S.c 0 1 rfl rfl
              have r6_2 := S.c 0 2 rfl rfl
              have r6_3 := S.c 0 3 rfl rfl
              have v1 := szR_divInt r0 r1 (by omega)
              have v2 := lenI_i64 hr0
              have v3 := lenI_i64 hr1
              go_wp2_with fail
              refine ((gcompare_s ((S.qi 0 rfl).num (by omega)) ((S.qi 2 rfl).num (by omega)) (by omega) HS5.out)).mono ?_
              rintro e W14 ⟨rfl, hk⟩
              replace S := S.below hk
              clear hk
              clear r3_0 r3_1 r3_2 r3_3 r6_0 r6_1 r6_2 r6_3
              rcases Bool.eq_false_or_eq_true (decide (s5 < 0)) with t8 | t8
              · skip
                go_wp2
                go_ret
                first | exact ⟨rfl, S.k⟩ | exact ⟨by rw [ns_fin hxy HS4.out t8 HS5.out t9 HS6.out] <;> rfl, S.k⟩ | exact ⟨by rw [ns_fin hxy HS5.out t8 HS4.out t9 HS9.out] <;> rfl, S.k⟩
              · skip
                have r4_0 := S.c 2 0 rfl rfl
                have r4_1 := S.c 2 1 rfl rfl
                have r4_2 := S.c 2 2 rfl rfl
                have r4_3 := S.c 2 3 rfl rfl
                have r6_0 := S.c 0 0 rfl rfl
                have r6_1 := S.c 0 1 rfl rfl
                have r6_2 := S.c 0 2 rfl rfl
                have r6_3 := S.c 0 3 rfl rfl
                go_wp2_with fail
                refine ((gcompare_s ((S.qi 0 rfl).num (by omega)) ((S.qi 3 rfl).num (by omega)) (by omega) HS4.out)).mono ?_
                rintro e W15 ⟨rfl, hk⟩
                replace S := S.below hk
                clear hk
                clear r4_0 r4_1 r4_2 r4_3 r6_0 r6_1 r6_2 r6_3
                rcases Bool.eq_false_or_eq_true (decide (0 < s4)) with t9 | t9
                · skip
                  go_wp2
                  go_ret
                  first | exact ⟨rfl, S.k⟩ | exact ⟨by rw [ns_fin hxy HS4.out t8 HS5.out t9 HS6.out] <;> rfl, S.k⟩ | exact ⟨by rw [ns_fin hxy HS5.out t8 HS4.out t9 HS9.out] <;> rfl, S.k⟩
                · skip
                  have r5_0 := S.c 1 0 rfl rfl
                  have r5_1 := S.c 1 1 rfl rfl
                  have r5_2 := S.c 1 2 rfl rfl
                  have r5_3 := S.c 1 3 rfl rfl
                  have r6_0 := S.c 0 0 rfl rfl
                  have r6_1 := S.c 0 1 rfl rfl
                  have r6_2 := S.c 0 2 rfl rfl
                  have r6_3 := S.c 0 3 rfl rfl
                  go_wp2_with fail
                  refine ((rcompare_s ((S.qi 1 rfl).dn (by omega)) ((S.qi 0 rfl).dn (by omega)) HS9.out)).mono ?_
                  rintro e W16 ⟨rfl, hk⟩
                  replace S := S.below hk
                  clear hk
                  clear r5_0 r5_1 r5_2 r5_3 r6_0 r6_1 r6_2 r6_3
                  go_wp2
                  go_ret
                  first | exact ⟨rfl, S.k⟩ | exact ⟨by rw [ns_fin hxy HS4.out t8 HS5.out t9 HS6.out] <;> rfl, S.k⟩ | exact ⟨by rw [ns_fin hxy HS5.out t8 HS4.out t9 HS9.out] <;> rfl, S.k⟩
    · skip
      have t2 : decide (0 < s2) = false := by exact ns_c2 (ns_le HS1.out t1) HS2.out
      have t3 : decide (0 < s3) = false := by exact ns_c3 (ns_le HS1.out t1) HS3.out
      have r3_0 := S.c 1 0 rfl rfl
      have r3_1 := S.c 1 1 rfl rfl
      have r3_2 := S.c 1 2 rfl rfl
      have r3_3 := S.c 1 3 rfl rfl
      have r4_0 := S.c 0 0 rfl rfl
      have r4_1 := S.c 0 1 rfl rfl
      have r4_2 := S.c 0 2 rfl rfl
      have r4_3 := S.c 0 3 rfl rfl
      have hxy := ns_le HS1.out t1
      have zs := simV_sz hxy
      have HC := Lib.hid (show simC X Y = 0 from if_neg (Rat.not_lt.2 hxy))
      go_wp2_with fail
      refine ((rcode_eq (fsimpl_num ((S.qi 1 rfl).num (by omega)) ((S.qi 0 rfl).num (by omega)) (by omega) (by omega)) HC.out rfl)).mono ?_
      rintro e W6 ⟨U6, rfl, hp, hk⟩
      rw [if_pos rfl] at hp
      obtain ⟨b5, A5, n5, c5, d5, B5, m5, e5, rfl⟩ := hp.open_
      replace S := (S.below hk).addQ hp
      clear hk hp
      clear r3_0 r3_1 r3_2 r3_3 r4_0 r4_1 r4_2 r4_3
      go_upto_region 7 with fail
      replace S := (S.alloc 28 [.bool b5, .slice A5 n5 c5, .bool d5, .slice B5 m5 e5])
      obtain ⟨W7, eW, S⟩ := S.pack
      rw [eW]
      clear eW
      generalize W6.heap.size = P1 at *
      have r5_0 := S.c 0 0 rfl rfl
      have r5_1 := S.c 0 1 rfl rfl
      have r5_2 := S.c 0 2 rfl rfl
      have r5_3 := S.c 0 3 rfl rfl
      go_wp2_with fail
      refine ((gvalid_rep (S.qi 0 rfl) (by omega))).mono ?_
      rintro e W8 ⟨rfl, hk⟩
      replace S := S.below hk
      clear hk
      clear r5_0 r5_1 r5_2 r5_3
      have r3_0 := S.c 2 0 rfl rfl
      have r3_1 := S.c 2 1 rfl rfl
      have r3_2 := S.c 2 2 rfl rfl
      have r3_3 := S.c 2 3 rfl rfl
      have r5_0 := S.c 0 0 rfl rfl
      have r5_1 := S.c 0 1 rfl rfl
      have r5_2 := S.c 0 2 rfl rfl
      have r5_3 := S.c 0 3 rfl rfl
      go_wp2_with fail
      refine ((gcompare_s ((S.qi 2 rfl).num (by omega)) ((S.qi 0 rfl).num (by omega)) (by omega) HS2.out)).mono ?_
      rintro e W9 ⟨rfl, hk⟩
      replace S := S.below hk
      clear hk
      clear r3_0 r3_1 r3_2 r3_3 r5_0 r5_1 r5_2 r5_3
      have r4_0 := S.c 1 0 rfl rfl
      have r4_1 := S.c 1 1 rfl rfl
      have r4_2 := S.c 1 2 rfl rfl
      have r4_3 := S.c 1 3 rfl rfl
      have r5_0 := S.c 0 0 rfl rfl
      have r5_1 := S.c 0 1 rfl rfl
      have r5_2 := S.c 0 2 rfl rfl
      have r5_3 := S.c 0 3 rfl rfl
      go_wp2_with fail
      refine ((gcompare_s ((S.qi 0 rfl).num (by omega)) ((S.qi 1 rfl).num (by omega)) (by omega) HS3.out)).mono ?_
      rintro e W10 ⟨rfl, hk⟩
      replace S := S.below hk
      clear hk
      clear r4_0 r4_1 r4_2 r4_3 r5_0 r5_1 r5_2 r5_3
      rcases Bool.eq_false_or_eq_true (decide (r1 < 1)) with t4 | t4
      · skip
        have r2_0 := S.c 3 0 rfl rfl
        have r2_1 := S.c 3 1 rfl rfl
        go_wp2
        go_ret
        first | exact ⟨rfl, S.k⟩ | exact ⟨by rw [ns_fin hxy HS4.out t8 HS5.out t9 HS6.out] <;> rfl, S.k⟩ | exact ⟨by rw [ns_fin hxy HS5.out t8 HS4.out t9 HS9.out] <;> rfl, S.k⟩
      · skip
        rcases Bool.eq_false_or_eq_true (decide (40 < r1)) with t5 | t5
        · skip
          have r2_0 := S.c 3 0 rfl rfl
          have r2_1 := S.c 3 1 rfl rfl
          go_wp2
          go_ret
          first | exact ⟨rfl, S.k⟩ | exact ⟨by rw [ns_fin hxy HS4.out t8 HS5.out t9 HS6.out] <;> rfl, S.k⟩ | exact ⟨by rw [ns_fin hxy HS5.out t8 HS4.out t9 HS9.out] <;> rfl, S.k⟩
        · skip
          rcases Bool.eq_false_or_eq_true (decide (1073741824 < r0)) with t6 | t6
          · skip
            have r2_0 := S.c 3 0 rfl rfl
            have r2_1 := S.c 3 1 rfl rfl
            go_wp2
            go_ret
            first | exact ⟨rfl, S.k⟩ | exact ⟨by rw [ns_fin hxy HS4.out t8 HS5.out t9 HS6.out] <;> rfl, S.k⟩ | exact ⟨by rw [ns_fin hxy HS5.out t8 HS4.out t9 HS9.out] <;> rfl, S.k⟩
          · skip
            rcases Bool.eq_false_or_eq_true (decide (r0 < -1073741824)) with t7 | t7
            · skip
              have r2_0 := S.c 3 0 rfl rfl
              have r2_1 := S.c 3 1 rfl rfl
              go_wp2
              go_ret
              first | exact ⟨rfl, S.k⟩ | exact ⟨by rw [ns_fin hxy HS4.out t8 HS5.out t9 HS6.out] <;> rfl, S.k⟩ | exact ⟨by rw [ns_fin hxy HS5.out t8 HS4.out t9 HS9.out] <;> rfl, S.k⟩
            · skip
              have r2_0 := S.c 3 0 rfl rfl
              have r2_1 := S.c 3 1 rfl rfl
              have hr2 : 1 ≤ r1 := by have := of_decide_eq_false t4; omega
              go_wp2_with fail
              refine ((lof_num r0 r1 (by omega) (by omega) (by omega) (by omega) (by omega))).mono ?_
              rintro e W11 ⟨U11, rfl, hp, hk⟩
              obtain ⟨b6, A6, n6, c6, d6, B6, m6, e6, rfl⟩ := hp.open_
              replace S := (S.below hk).addQ hp
              clear hk hp
              clear r2_0 r2_1
              go_upto_region 12 with fail
              replace S := (S.alloc 28 [.bool b6, .slice A6 n6 c6, .bool d6, .slice B6 m6 e6])
              obtain ⟨W12, eW, S⟩ := S.pack
              rw [eW]
              clear eW
              generalize W11.heap.size = P2 at *
              have r3_0 := S.c 3 0 rfl rfl
              have r3_1 := S.c 3 1 rfl rfl
              have r3_2 := S.c 3 2 rfl rfl
              have r3_3 := S.c 3 3 rfl rfl
              have r6_0 := S.c 0 0 rfl rfl
              have r6_1 := S.c 0 1 rfl rfl
              have r6_2 := S.c 0 2 rfl rfl
              have r6_3 := S.c 0 3 rfl rfl
              have v1 := szR_divInt r0 r1 (by omega)
              have v2 := lenI_i64 hr0
              have v3 := lenI_i64 hr1
              go_wp2_with fail
              refine ((gcompare_s ((S.qi 0 rfl).num (by omega)) ((S.qi 3 rfl).num (by omega)) (by omega) HS4.out)).mono ?_
              rintro e W13 ⟨rfl, hk⟩
              replace S := S.below hk
              clear hk
              clear r3_0 r3_1 r3_2 r3_3 r6_0 r6_1 r6_2 r6_3
              rcases Bool.eq_false_or_eq_true (decide (s4 < 0)) with t8 | t8
              · skip
                go_wp2
                go_ret
                first | exact ⟨rfl, S.k⟩ | exact ⟨by rw [ns_fin hxy HS4.out t8 HS5.out t9 HS6.out] <;> rfl, S.k⟩ | exact ⟨by rw [ns_fin hxy HS5.out t8 HS4.out t9 HS9.out] <;> rfl, S.k⟩
              · skip
                have r4_0 := S.c 2 0 rfl rfl
                have r4_1 := S.c 2 1 rfl rfl
                have r4_2 := S.c 2 2 rfl rfl
                have r4_3 := S.c 2 3 rfl rfl
                have r6_0 := S.c 0 0 rfl rfl
                have r6_1 := S.c 0 1 rfl rfl
                have r6_2 := S.c 0 2 rfl rfl
                have r6_3 := S.c 0 3 rfl rfl
                go_wp2_with fail
                refine ((gcompare_s ((S.qi 0 rfl).num (by omega)) ((S.qi 2 rfl).num (by omega)) (by omega) HS5.out)).mono ?_
                rintro e W14 ⟨rfl, hk⟩
                replace S := S.below hk
                clear hk
                clear r4_0 r4_1 r4_2 r4_3 r6_0 r6_1 r6_2 r6_3
                rcases Bool.eq_false_or_eq_true (decide (0 < s5)) with t9 | t9
                · skip
                  go_wp2
                  go_ret
                  first | exact ⟨rfl, S.k⟩ | exact ⟨by rw [ns_fin hxy HS4.out t8 HS5.out t9 HS6.out] <;> rfl, S.k⟩ | exact ⟨by rw [ns_fin hxy HS5.out t8 HS4.out t9 HS9.out] <;> rfl, S.k⟩
                · skip
                  have r5_0 := S.c 1 0 rfl rfl
                  have r5_1 := S.c 1 1 rfl rfl
                  have r5_2 := S.c 1 2 rfl rfl
                  have r5_3 := S.c 1 3 rfl rfl
                  have r6_0 := S.c 0 0 rfl rfl
                  have r6_1 := S.c 0 1 rfl rfl
                  have r6_2 := S.c 0 2 rfl rfl
                  have r6_3 := S.c 0 3 rfl rfl
                  go_wp2_with fail
                  refine ((rcompare_s ((S.qi 1 rfl).dn (by omega)) ((S.qi 0 rfl).dn (by omega)) HS6.out)).mono ?_
                  rintro e W15 ⟨rfl, hk⟩
                  replace S := S.below hk
                  clear hk
                  clear r5_0 r5_1 r5_2 r5_3 r6_0 r6_1 r6_2 r6_3
                  go_wp2
                  go_ret
                  first | exact ⟨rfl, S.k⟩ | exact ⟨by rw [ns_fin hxy HS4.out t8 HS5.out t9 HS6.out] <;> rfl, S.k⟩ | exact ⟨by rw [ns_fin hxy HS5.out t8 HS4.out t9 HS9.out] <;> rfl, S.k⟩
theorem nosim_walk {w : World} {n0 n1 d0 d1 r0 r1 : Int} (ht : PowTab w) (hn0 : -32768 ≤ n0 ∧ n0 ≤ 32767) (hn1 : -32768 ≤ n1 ∧ n1 ≤ 32767) (hd0 : 0 ≤ d0 ∧ d0 ≤ 255) (hd1 : 0 ≤ d1 ∧ d1 ≤ 255)
    (hr0 : -9223372036854775808 ≤ r0 ∧ r0 ≤ 9223372036854775807) (hr1 : -9223372036854775808 ≤ r1 ∧ r1 ≤ 9223372036854775807) :
    Calls Tryz.prog 7 #[.agg #[.int .i16 n0, .int .i16 n1], .agg #[.int .u8 d0, .int .u8 d1], .agg #[.int .i64 r0, .int .i64 r1]] w fun e w' => e = .returned (.bool true) ∧ Keeps w w' := by
  have m0 : 0 ≤ d0.tmod 40 ∧ d0.tmod 40 < 40 := by rw [Int.tmod_eq_emod_of_nonneg hd0.1]; omega
  have m1 : 0 ≤ d1.tmod 40 ∧ d1.tmod 40 < 40 := by rw [Int.tmod_eq_emod_of_nonneg hd1.1]; omega
  exact ns_main (g0 := d0.tmod 40) (g1 := d1.tmod 40) (f0 := 1 + d0.tmod 40) (f1 := 1 + d1.tmod 40) ht hn0 hn1 hr0 hr1 (IntWalk.i64_in _ (by omega)) (IntWalk.i64_in _ (by omega)) (IntWalk.i64_in _ (by omega)) (IntWalk.i64_in _ (by omega))
    rfl rfl (IntWalk.i64_in _ (by omega)) (IntWalk.i64_in _ (by omega)) (by omega) (by omega)
end Go.Proofs.YtmochehkkadjnaaGreatDoor
