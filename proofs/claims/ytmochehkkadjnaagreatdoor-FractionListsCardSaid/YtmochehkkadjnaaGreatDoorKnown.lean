/- The walk of the laws' helpers of and known. -/
import Derived.Test.YtmochehkkadjnaaGreatDoorFSimpl
import Derived.Test.YtmochehkkadjnaaGreatDoorFDec
import Derived.Test.YtmochehkkadjnaaGreatDoorFRoot
import Derived.Test.YtmochehkkadjnaaGreatDoorGOps2
import Derived.Test.YtmochehkkadjnaaGreatDoorMgGRed
import Derived.Test.YtmochehkkadjnaaGreatDoorMgFMake
namespace Go.Proofs.YtmochehkkadjnaaGreatDoor
open Go.RowKit Go.Shelf

set_option maxRecDepth 100000 in
set_option maxHeartbeats 1000000 in
theorem lof_num {w : World} (n d : Int) (h1 : -9223372036854775808 ≤ n) (h2 : n ≤ 9223372036854775807) (h3 : -9223372036854775808 ≤ d) (h4 : d ≤ 9223372036854775807) (hd : d ≠ 0) : Calls Tryz.prog 42 #[.int .i64 n, .int .i64 d] w (RGives (Rat.divInt n d) w) := by
  have S := (St.start w)
  go_enter Tryz.func42, Tryz.ntmps42
  go_wp2_with fail
  replace S := (S.alloc 28 [.bool false, .slice none 0 0, .bool false, .slice none 0 0])
  obtain ⟨W1, eW, S⟩ := S.pack
  rw [eW]
  clear eW
  refine ((rcode_eq (gof_num n d h1 h2 h3 h4) (if_neg hd) rfl)).mono ?_
  rintro e W2 ⟨U2, rfl, hp, hk⟩
  rw [if_pos rfl] at hp
  obtain ⟨b3, A3, n3, c3, d3, B3, m3, e3, rfl⟩ := hp.open_
  replace S := (S.below hk).addQ hp
  clear hk hp
  go_upto_region 2 with fail
  replace S := (S.alloc 28 [.bool b3, .slice A3 n3 c3, .bool d3, .slice B3 m3 e3])
  obtain ⟨W3, eW, S⟩ := S.pack
  rw [eW]
  clear eW
  generalize W2.heap.size = P1 at *
  have r0_0 := S.c 1 0 rfl rfl
  have f0_0 := S.f 1 0 rfl
  have r0_1 := S.c 1 1 rfl rfl
  have f0_1 := S.f 1 1 rfl
  have r0_2 := S.c 1 2 rfl rfl
  have f0_2 := S.f 1 2 rfl
  have r0_3 := S.c 1 3 rfl rfl
  have f0_3 := S.f 1 3 rfl
  have r1_0 := S.c 0 0 rfl rfl
  have r1_1 := S.c 0 1 rfl rfl
  have r1_2 := S.c 0 2 rfl rfl
  have r1_3 := S.c 0 3 rfl rfl
  go_wp2
  replace S := (S.put4 1 rfl rfl rfl (x' := .bool b3) (y' := .slice A3 n3 c3) (z' := .bool d3) (u' := .slice B3 m3 e3))
  refine bodyPost_ret (v := .agg #[.bool b3, .slice A3 n3 c3, .bool d3, .slice B3 m3 e3]) (by simp [results, Tryz.results42, go_sem, S.c 1 0 rfl rfl, S.c 1 1 rfl rfl, S.c 1 2 rfl rfl, S.c 1 3 rfl rfl]) rfl ?_
  exact ⟨_, rfl, S.qi 0 rfl, S.k⟩
theorem lenI_small {a : Int} (h : a.natAbs < 1000000000) : lenI a ≤ 1 := dig_length_le (n := a.natAbs) (k := 1) (by simpa using h)
theorem szR_small (a b : Int) (hb : b ≠ 0) (h1 : a.natAbs < 1000000000) (h2 : b.natAbs < 1000000000) : szR (Rat.divInt a b) ≤ 1 := by
  have := szR_divInt a b hb
  have := lenI_small h1
  have := lenI_small h2
  omega
theorem dd_one (n : Nat) (h : n < 10) : Lib.decDigits n = [UInt8.ofNat (48 + n)] := by rw [Lib.decDigits, dif_pos h]
theorem dd_150 : Lib.decDigits 150 = [49, 53, 48] := by
  rw [Lib.decDigits, dif_neg (by decide), Lib.decDigits, dif_neg (by decide), dd_one _ (by decide)]
  rfl
theorem kn_text {w : World} {V : Value} (h : RatNum w V (Rat.divInt 6 (-4))) (ht : PowTab w) : Calls Tryz.prog 75 #[V] w fun e w' => e = .returned (.string ⟨#[45, 51, 47, 50]⟩) ∧ Keeps w w' := by
  have e : fracT (Rat.divInt 6 (-4)) = [45, 51, 47, 50] := by
    have e1 : (Rat.divInt 6 (-4)).num = -3 := by decide +kernel
    have e2 : (Rat.divInt 6 (-4)).den = 2 := by decide +kernel
    unfold fracT
    rw [e1, e2]
    unfold textL
    rw [if_neg (by decide), if_pos (by decide), if_neg (by decide), if_neg (by decide), if_neg (by decide), show (-3 : Int).natAbs = 3 from rfl, dd_one _ (by decide), show ((2 : Nat) : Int).natAbs = 2 from rfl, dd_one _ (by decide)]
    rfl
  have := ftext_num h ht
  rwa [e] at this
theorem kn_dec {w : World} {V : Value} (h : RatNum w V (Rat.divInt 6 (-4))) (ht : PowTab w) : Calls Tryz.prog 45 #[V, .int .i64 2] w fun e w' => e = .returned (.tuple #[.string ⟨#[45, 49, 46, 53, 48]⟩, .int .i64 0]) ∧ Keeps w w' := by
  have e : decT (nearR (Rat.divInt 6 (-4) * ((10 ^ 2 : Int) : Rat))) 2 = [45, 49, 46, 53, 48] := by
    have e1 : nearR (Rat.divInt 6 (-4) * ((10 ^ 2 : Int) : Rat)) = -150 := by decide +kernel
    rw [e1]
    unfold decT textL
    rw [if_pos (by decide), if_neg (by decide), if_neg (by decide), show (((-150 : Int).natAbs : Nat) : Int).natAbs = 150 from rfl, dd_150]
    rfl
  have := fdec_good (k := 2) h (by decide) (by have := szR_small 6 (-4) (by decide) (by decide) (by decide); omega) ht
  rwa [e] at this
theorem kn_down {w : World} {V : Value} (h : RatNum w V (Rat.divInt 1 3)) (ht : PowTab w) : Calls Tryz.prog 52 #[V, .int .i64 3] w (RCode 0 (Rat.divInt 1 4) w) :=
  rcode_eq (fdown_num h (by have := szR_small 1 3 (by decide) (by decide) (by decide); omega) ht) (by decide) (by decide +kernel)
def RT2 (q r : Rat) (w : World) (e : Ending) (w' : World) : Prop := ∃ Q R, e = .returned (.tuple #[Q, R, .int .i64 0]) ∧ RatRep w' Q q ∧ RatRep w' R r ∧ Keeps w w'
theorem rt_of {P : Program} {F : FuncId} {args : Array Value} {w : World} {y : Rat} {p : Int} {s : Nat} (h : Calls P F args w (RtGives y p w)) (hs : IsRoot y.floor s) : Calls P F args w (RT2 (Rat.divInt s p) (Rat.divInt (upR s y) p) w) := by
  refine h.mono ?_
  rintro e w' ⟨t, Q, R, ht, rfl, h1, h2, hk⟩
  obtain rfl := root_unique ht hs
  exact ⟨Q, R, rfl, h1, h2, hk⟩
theorem kn_root {w : World} {V : Value} (h : RatNum w V (Rat.divInt 2 1)) (ht : PowTab w) : Calls Tryz.prog 37 #[V, .int .i64 2] w (RT2 (Rat.divInt 5 4) (Rat.divInt 3 2) w) := by
  have hs : IsRoot (Rat.divInt 2 1 * ((4 : Int) : Rat) * ((4 : Int) : Rat)).floor 5 := by
    rw [show (Rat.divInt 2 1 * ((4 : Int) : Rat) * ((4 : Int) : Rat)).floor = ((32 : Nat) : Int) by decide +kernel]
    exact IsRoot.of_nat (by decide) (by decide)
  have := rt_of (froot_num (k := 2) h (by have := szR_small 2 1 (by decide) (by decide) (by decide); omega) ht (by decide) (by decide) (by decide +kernel) (P := 4) (by decide)) hs
  rwa [show Rat.divInt (upR 5 (Rat.divInt 2 1 * ((4 : Int) : Rat) * ((4 : Int) : Rat))) 4 = Rat.divInt 3 2 by decide +kernel] at this
theorem kn_simp {w : World} {V1 V2 : Value} (h1 : RatNum w V1 (Rat.divInt 31 100)) (h2 : RatNum w V2 (Rat.divInt 32 100)) : Calls Tryz.prog 40 #[V1, V2] w (RCode 0 (Rat.divInt 5 16) w) :=
  rcode_eq (fsimpl_num h1 h2 (by have := szR_small 31 100 (by decide) (by decide) (by decide); omega) (by have := szR_small 32 100 (by decide) (by decide) (by decide); omega)) (by decide +kernel) simV_known
set_option maxRecDepth 100000 in
set_option maxHeartbeats 4000000 in
theorem known_any (w : World) (ht : PowTab w) : Calls Tryz.prog 15 #[] w (fun e w' => e = .returned (.bool true) ∧ Keeps w w') := by
  have k1 := szR_small 6 (-4) (by decide) (by decide) (by decide)
  have k2 := szR_small (-3) 2 (by decide) (by decide) (by decide)
  have k3 := szR_small 1 4 (by decide) (by decide) (by decide)
  have k4 := szR_small 5 4 (by decide) (by decide) (by decide)
  have k5 := szR_small 3 2 (by decide) (by decide) (by decide)
  have k6 := szR_small 5 16 (by decide) (by decide) (by decide)
  have k7 := szR_small 1 3 (by decide) (by decide) (by decide)
  have k8 := szR_small 2 1 (by decide) (by decide) (by decide)
  have k9 := szR_small 31 100 (by decide) (by decide) (by decide)
  have k10 := szR_small 32 100 (by decide) (by decide) (by decide)
  have S := (St.start w)
  go_enter Tryz.func15, Tryz.ntmps15
  go_wp2_with fail
  refine ((rcode_eq (c' := 0) (fof_num 6 (-4) (by omega) (by omega) (by omega) (by omega)) (by decide) rfl)).mono ?_
  rintro e W1 ⟨U1, rfl, hp, hk⟩
  rw [if_pos rfl] at hp
  obtain ⟨b3, A3, n3, c3, d3, B3, m3, e3, rfl⟩ := hp.open_
  replace S := (S.below hk).addQ hp
  clear hk hp
  go_upto_region 2 with fail
  replace S := (S.alloc 28 [.bool b3, .slice A3 n3 c3, .bool d3, .slice B3 m3 e3])
  obtain ⟨W2, eW, S⟩ := S.pack
  rw [eW]
  clear eW
  generalize W1.heap.size = P1 at *
  have r0_0 := S.c 0 0 rfl rfl
  have r0_1 := S.c 0 1 rfl rfl
  have r0_2 := S.c 0 2 rfl rfl
  have r0_3 := S.c 0 3 rfl rfl
  go_wp2_with fail
  refine ((kn_dec ((S.qi 0 rfl).num (by omega)) (ht.keep S.k))).mono ?_
  rintro e W3 ⟨rfl, hk⟩
  replace S := S.below hk
  clear hk
  clear r0_0 r0_1 r0_2 r0_3
  go_wp2_with fail
  refine ((lof_num 1 3 (by omega) (by omega) (by omega) (by omega) (by omega))).mono ?_
  rintro e W4 ⟨U4, rfl, hp, hk⟩
  obtain ⟨b4, A4, n4, c4, d4, B4, m4, e4, rfl⟩ := hp.open_
  replace S := (S.below hk).addQ hp
  clear hk hp
  go_wp2_with fail
  refine ((kn_down ((S.qi 0 rfl).num (by omega)) (ht.keep S.k))).mono ?_
  rintro e W5 ⟨U5, rfl, hp, hk⟩
  rw [if_pos rfl] at hp
  obtain ⟨b5, A5, n5, c5, d5, B5, m5, e5, rfl⟩ := hp.open_
  replace S := (S.below hk).addQ hp
  clear hk hp
  go_wp2_with fail
  replace S := (S.alloc 28 [.bool b5, .slice A5 n5 c5, .bool d5, .slice B5 m5 e5])
  obtain ⟨W6, eW, S⟩ := S.pack
  rw [eW]
  clear eW
  generalize W5.heap.size = P2 at *
  refine ((lof_num 2 1 (by omega) (by omega) (by omega) (by omega) (by omega))).mono ?_
  rintro e W7 ⟨U7, rfl, hp, hk⟩
  obtain ⟨b6, A6, n6, c6, d6, B6, m6, e6, rfl⟩ := hp.open_
  replace S := (S.below hk).addQ hp
  clear hk hp
  go_wp2_with fail
  refine ((kn_root ((S.qi 0 rfl).num (by omega)) (ht.keep S.k))).mono ?_
  rintro e W8 ⟨U8, V8, rfl, hp, hr, hk⟩
  obtain ⟨b7, A7, n7, c7, d7, B7, m7, e7, rfl⟩ := hp.open_
  obtain ⟨b8, A8, n8, c8, d8, B8, m8, e8, rfl⟩ := hr.open_
  replace S := ((S.below hk).addQ hp).addQ hr
  clear hk hp hr
  go_wp2_with fail
  replace S := ((S.alloc 28 [.bool b7, .slice A7 n7 c7, .bool d7, .slice B7 m7 e7]).alloc 28 [.bool b8, .slice A8 n8 c8, .bool d8, .slice B8 m8 e8])
  simp only [World.size_alloc] at S
  obtain ⟨W9, eW, S⟩ := S.pack
  rw [eW]
  clear eW
  generalize W8.heap.size = P3 at *
  refine ((lof_num 31 100 (by omega) (by omega) (by omega) (by omega) (by omega))).mono ?_
  rintro e W10 ⟨U10, rfl, hp, hk⟩
  obtain ⟨b9, A9, n9, c9, d9, B9, m9, e9, rfl⟩ := hp.open_
  replace S := (S.below hk).addQ hp
  clear hk hp
  go_wp2_with fail
  refine ((lof_num 32 100 (by omega) (by omega) (by omega) (by omega) (by omega))).mono ?_
  rintro e W11 ⟨U11, rfl, hp, hk⟩
  obtain ⟨b10, A10, n10, c10, d10, B10, m10, e10, rfl⟩ := hp.open_
  replace S := (S.below hk).addQ hp
  clear hk hp
  go_wp2_with fail
  refine ((kn_simp ((S.qi 1 rfl).num (by omega)) ((S.qi 0 rfl).num (by omega)))).mono ?_
  rintro e W12 ⟨U12, rfl, hp, hk⟩
  rw [if_pos rfl] at hp
  obtain ⟨b11, A11, n11, c11, d11, B11, m11, e11, rfl⟩ := hp.open_
  replace S := (S.below hk).addQ hp
  clear hk hp
  go_upto_region 6 with fail
  replace S := (S.alloc 28 [.bool b11, .slice A11 n11 c11, .bool d11, .slice B11 m11 e11])
  obtain ⟨W13, eW, S⟩ := S.pack
  rw [eW]
  clear eW
  generalize W12.heap.size = P4 at *
  refine wp_region_steps (m := 44) rfl (by kernel_rfl) (fun iΦ vΦ wΦ => (List.getD [fun vΦ _ => vΦ = .int .i64 0, fun vΦ _ => vΦ = .int .i64 0, fun vΦ _ => vΦ = .int .i64 0, fun vΦ _ => vΦ = .int .i64 0, fun vΦ _ => vΦ = .int .i64 0, fun vΦ _ => vΦ = .int .i64 0, fun vΦ _ => vΦ = .int .i64 0, fun vΦ _ => vΦ = .int .i64 0, fun vΦ _ => vΦ = .int .i64 0, fun vΦ _ => vΦ = .bool true, fun vΦ _ => vΦ = .bool true, fun vΦ _ => vΦ = .agg #[.bool b3, .slice A3 n3 c3, .bool d3, .slice B3 m3 e3], fun vΦ wΦ => RatRep wΦ vΦ (Rat.divInt (-3) 2), fun vΦ _ => vΦ = .bool true, fun vΦ _ => vΦ = .bool true, fun vΦ _ => vΦ = .bool true, fun vΦ _ => vΦ = .agg #[.bool b3, .slice A3 n3 c3, .bool d3, .slice B3 m3 e3], fun vΦ _ => vΦ = .string ⟨#[45, 51, 47, 50]⟩, fun vΦ _ => vΦ = .bool true, fun vΦ _ => vΦ = .bool true, fun vΦ _ => vΦ = .bool true, fun vΦ _ => vΦ = .string ⟨#[45, 49, 46, 53, 48]⟩, fun vΦ _ => vΦ = .bool true, fun vΦ _ => vΦ = .bool true, fun vΦ _ => vΦ = .bool true, fun vΦ _ => vΦ = .agg #[.bool b5, .slice A5 n5 c5, .bool d5, .slice B5 m5 e5], fun vΦ wΦ => RatRep wΦ vΦ (Rat.divInt 1 4), fun vΦ _ => vΦ = .bool true, fun vΦ _ => vΦ = .bool true, fun vΦ _ => vΦ = .bool true, fun vΦ _ => vΦ = .agg #[.bool b7, .slice A7 n7 c7, .bool d7, .slice B7 m7 e7], fun vΦ wΦ => RatRep wΦ vΦ (Rat.divInt 5 4), fun vΦ _ => vΦ = .bool true, fun vΦ _ => vΦ = .bool true, fun vΦ _ => vΦ = .bool true, fun vΦ _ => vΦ = .agg #[.bool b8, .slice A8 n8 c8, .bool d8, .slice B8 m8 e8], fun vΦ wΦ => RatRep wΦ vΦ (Rat.divInt 3 2), fun vΦ _ => vΦ = .bool true, fun vΦ _ => vΦ = .bool true, fun vΦ _ => vΦ = .bool true, fun vΦ _ => vΦ = .agg #[.bool b11, .slice A11 n11 c11, .bool d11, .slice B11 m11 e11], fun vΦ wΦ => RatRep wΦ vΦ (Rat.divInt 5 16), fun vΦ _ => vΦ = .bool true, fun vΦ _ => vΦ = .bool true] iΦ (fun _ _ => True)) vΦ wΦ) [] ?_ ?_ ?_
  · intro i v w w' hi h hk
    rcases (show i = 0 ∨ i = 1 ∨ i = 2 ∨ i = 3 ∨ i = 4 ∨ i = 5 ∨ i = 6 ∨ i = 7 ∨ i = 8 ∨ i = 9 ∨ i = 10 ∨ i = 11 ∨ i = 12 ∨ i = 13 ∨ i = 14 ∨ i = 15 ∨ i = 16 ∨ i = 17 ∨ i = 18 ∨ i = 19 ∨ i = 20 ∨ i = 21 ∨ i = 22 ∨ i = 23 ∨ i = 24 ∨ i = 25 ∨ i = 26 ∨ i = 27 ∨ i = 28 ∨ i = 29 ∨ i = 30 ∨ i = 31 ∨ i = 32 ∨ i = 33 ∨ i = 34 ∨ i = 35 ∨ i = 36 ∨ i = 37 ∨ i = 38 ∨ i = 39 ∨ i = 40 ∨ i = 41 ∨ i = 42 ∨ i = 43 by omega) with rfl | rfl | rfl | rfl | rfl | rfl | rfl | rfl | rfl | rfl | rfl | rfl | rfl | rfl | rfl | rfl | rfl | rfl | rfl | rfl | rfl | rfl | rfl | rfl | rfl | rfl | rfl | rfl | rfl | rfl | rfl | rfl | rfl | rfl | rfl | rfl | rfl | rfl | rfl | rfl | rfl | rfl | rfl | rfl
    all_goals simp only [gz, gs] at h ⊢
    all_goals first | exact h | exact RatRep.below h hk
  · intro i hi vs w3 hk3 hd
    have S3 := S.drew.below hk3
    have a0 := S3.c 4 0 rfl rfl
    have a1 := S3.c 4 1 rfl rfl
    have a2 := S3.c 4 2 rfl rfl
    have a3 := S3.c 4 3 rfl rfl
    have a4 := S3.c 3 0 rfl rfl
    have a5 := S3.c 3 1 rfl rfl
    have a6 := S3.c 3 2 rfl rfl
    have a7 := S3.c 3 3 rfl rfl
    have a8 := S3.c 2 0 rfl rfl
    have a9 := S3.c 2 1 rfl rfl
    have a10 := S3.c 2 2 rfl rfl
    have a11 := S3.c 2 3 rfl rfl
    have a12 := S3.c 1 0 rfl rfl
    have a13 := S3.c 1 1 rfl rfl
    have a14 := S3.c 1 2 rfl rfl
    have a15 := S3.c 1 3 rfl rfl
    have a16 := S3.c 0 0 rfl rfl
    have a17 := S3.c 0 1 rfl rfl
    have a18 := S3.c 0 2 rfl rfl
    have a19 := S3.c 0 3 rfl rfl
    match i, hi with
    | 0, _ =>
      refine step_yes [] rfl (by kernel_rfl) fun K hK => ?_; simp only [frD] at hK ⊢; refine ⟨by rfl, ?_⟩; go_simp
      exact hK _ _ ⟨Below.refl _ _, rfl, by simp⟩
    | 1, _ =>
      refine step_yes [] rfl (by kernel_rfl) fun K hK => ?_; simp only [frD] at hK ⊢; refine ⟨by rfl, ?_⟩; go_simp
      exact hK _ _ ⟨Below.refl _ _, rfl, by simp⟩
    | 2, _ =>
      have e0 := hd 0 (cm (by kernel_rfl)); simp only [gz] at e0; have e1 := hd 1 (cm (by kernel_rfl)); simp only [gz, gs] at e1
      refine step_yes [(0, some 38), (1, some 39)] rfl (by kernel_rfl) fun K hK => ?_; simp only [frD, e0, e1] at hK ⊢; refine ⟨by rfl, ?_⟩; go_simp
      exact hK _ _ ⟨Below.refl _ _, rfl, by simp⟩
    | 3, _ =>
      refine step_yes [] rfl (by kernel_rfl) fun K hK => ?_; simp only [frD] at hK ⊢; refine ⟨by rfl, ?_⟩; go_simp
      exact hK _ _ ⟨Below.refl _ _, rfl, by simp⟩
    | 4, _ =>
      have e2 := hd 2 (cm (by kernel_rfl)); simp only [gz, gs] at e2; have e3 := hd 3 (cm (by kernel_rfl)); simp only [gz, gs] at e3
      refine step_yes [(2, some 40), (3, some 41)] rfl (by kernel_rfl) fun K hK => ?_; simp only [frD, e2, e3] at hK ⊢; refine ⟨by rfl, ?_⟩; go_simp
      exact hK _ _ ⟨Below.refl _ _, rfl, by simp⟩
    | 5, _ =>
      refine step_yes [] rfl (by kernel_rfl) fun K hK => ?_; simp only [frD] at hK ⊢; refine ⟨by rfl, ?_⟩; go_simp
      exact hK _ _ ⟨Below.refl _ _, rfl, by simp⟩
    | 6, _ =>
      have e4 := hd 4 (cm (by kernel_rfl)); simp only [gz, gs] at e4; have e5 := hd 5 (cm (by kernel_rfl)); simp only [gz, gs] at e5
      refine step_yes [(4, some 42), (5, some 43)] rfl (by kernel_rfl) fun K hK => ?_; simp only [frD, e4, e5] at hK ⊢; refine ⟨by rfl, ?_⟩; go_simp
      exact hK _ _ ⟨Below.refl _ _, rfl, by simp⟩
    | 7, _ =>
      refine step_yes [] rfl (by kernel_rfl) fun K hK => ?_; simp only [frD] at hK ⊢; refine ⟨by rfl, ?_⟩; go_simp
      exact hK _ _ ⟨Below.refl _ _, rfl, by simp⟩
    | 8, _ =>
      have e6 := hd 6 (cm (by kernel_rfl)); simp only [gz, gs] at e6; have e7 := hd 7 (cm (by kernel_rfl)); simp only [gz, gs] at e7
      refine step_yes [(6, some 44), (7, some 45)] rfl (by kernel_rfl) fun K hK => ?_; simp only [frD, e6, e7] at hK ⊢; refine ⟨by rfl, ?_⟩; go_simp
      exact hK _ _ ⟨Below.refl _ _, rfl, by simp⟩
    | 9, _ =>
      have e8 := hd 8 (cm (by kernel_rfl)); simp only [gz, gs] at e8
      refine step_yes [(8, some 46)] rfl (by kernel_rfl) fun K hK => ?_; simp only [frD, e8] at hK ⊢; refine ⟨by rfl, ?_⟩; go_simp
      exact hK _ _ ⟨Below.refl _ _, rfl, by simp⟩
    | 10, _ =>
      have e9 := hd 9 (cm (by kernel_rfl)); simp only [gz, gs] at e9
      refine step_yes [(9, some 47)] rfl (by kernel_rfl) fun K hK => ?_; simp only [frD, e9] at hK ⊢; refine ⟨by rfl, ?_⟩; go_simp
      exact hK _ _ ⟨Below.refl _ _, rfl, by simp⟩
    | 11, _ =>
      have e10 := hd 10 (cm (by kernel_rfl)); simp only [gz, gs] at e10
      refine step_yes [(10, some 48)] rfl (by kernel_rfl) fun K hK => ?_; simp only [frD, e10] at hK ⊢; refine ⟨by rfl, ?_⟩; go_simp
      exact hK _ _ ⟨Below.refl _ _, rfl, by simp⟩
    | 12, _ =>
      have e10 := hd 10 (cm (by kernel_rfl)); simp only [gz, gs] at e10
      refine step_yes [(10, some 48)] rfl (by kernel_rfl) fun K hK => ?_; simp only [frD, e10] at hK ⊢; refine ⟨by rfl, ?_⟩; go_simp
      refine ((lof_num (-3) 2 (by omega) (by omega) (by omega) (by omega) (by omega))).mono ?_; rintro e w4 ⟨U, rfl, hr, hk4⟩; exact hK _ _ ⟨hk4, hr, by simp⟩
    | 13, _ =>
      have e10 := hd 10 (cm (by kernel_rfl)); simp only [gz, gs] at e10; have e11 := hd 11 (cm (by kernel_rfl)); simp only [gz, gs] at e11; have h12 := hd 12 (cm (by kernel_rfl)); simp only [gz, gs] at h12
      refine step_yes [(10, some 48), (11, some 49), (12, some 50)] rfl (by kernel_rfl) fun K hK => ?_; simp only [frD, e10, e11] at hK ⊢; refine ⟨by rfl, ?_⟩; go_simp
      refine ((gsame_s (b := true) (S3.qi 8 rfl) h12 (by omega) (by decide +kernel))).mono ?_; rintro e w4 ⟨rfl, hk4⟩; exact hK _ _ ⟨hk4, rfl, by simp⟩
    | 14, _ =>
      have e10 := hd 10 (cm (by kernel_rfl)); simp only [gz, gs] at e10; have e13 := hd 13 (cm (by kernel_rfl)); simp only [gz, gs] at e13
      refine step_yes [(10, some 48), (13, some 51)] rfl (by kernel_rfl) fun K hK => ?_; simp only [frD, e10, e13] at hK ⊢; refine ⟨by rfl, ?_⟩; go_simp
      exact hK _ _ ⟨Below.refl _ _, rfl, by simp⟩
    | 15, _ =>
      have e13 := hd 13 (cm (by kernel_rfl)); simp only [gz, gs] at e13; have e14 := hd 14 (cm (by kernel_rfl)); simp only [gz, gs] at e14
      refine step_yes [(13, some 51), (14, some 52)] rfl (by kernel_rfl) fun K hK => ?_; simp only [frD, e13, e14] at hK ⊢; refine ⟨by rfl, ?_⟩; go_simp
      exact hK _ _ ⟨Below.refl _ _, rfl, by simp⟩
    | 16, _ =>
      have e15 := hd 15 (cm (by kernel_rfl)); simp only [gz, gs] at e15
      refine step_yes [(15, some 53)] rfl (by kernel_rfl) fun K hK => ?_; simp only [frD, e15] at hK ⊢; refine ⟨by rfl, ?_⟩; go_simp
      exact hK _ _ ⟨Below.refl _ _, rfl, by simp⟩
    | 17, _ =>
      have e15 := hd 15 (cm (by kernel_rfl)); simp only [gz, gs] at e15; have e16 := hd 16 (cm (by kernel_rfl)); simp only [gz, gs] at e16
      refine step_yes [(15, some 53), (16, some 54)] rfl (by kernel_rfl) fun K hK => ?_; simp only [frD, e15, e16] at hK ⊢; refine ⟨by rfl, ?_⟩; go_simp
      refine ((kn_text ((S3.qi 8 rfl).num (by omega)) (ht.keep S3.k))).mono ?_; rintro e w4 ⟨rfl, hk4⟩; exact hK _ _ ⟨hk4, rfl, by simp⟩
    | 18, _ =>
      have e15 := hd 15 (cm (by kernel_rfl)); simp only [gz, gs] at e15; have e17 := hd 17 (cm (by kernel_rfl)); simp only [gz, gs] at e17
      refine step_yes [(15, some 53), (17, some 55)] rfl (by kernel_rfl) fun K hK => ?_; simp only [frD, e15, e17] at hK ⊢; refine ⟨by rfl, ?_⟩; go_simp
      exact hK _ _ ⟨Below.refl _ _, rfl, by simp⟩
    | 19, _ =>
      have e15 := hd 15 (cm (by kernel_rfl)); simp only [gz, gs] at e15; have e18 := hd 18 (cm (by kernel_rfl)); simp only [gz, gs] at e18
      refine step_yes [(15, some 53), (18, some 56)] rfl (by kernel_rfl) fun K hK => ?_; simp only [frD, e15, e18] at hK ⊢; refine ⟨by rfl, ?_⟩; go_simp
      exact hK _ _ ⟨Below.refl _ _, rfl, by simp⟩
    | 20, _ =>
      have e17 := hd 17 (cm (by kernel_rfl)); simp only [gz, gs] at e17; have e19 := hd 19 (cm (by kernel_rfl)); simp only [gz, gs] at e19
      refine step_yes [(17, some 55), (19, some 57)] rfl (by kernel_rfl) fun K hK => ?_; simp only [frD, e17, e19] at hK ⊢; refine ⟨by rfl, ?_⟩; go_simp
      exact hK _ _ ⟨Below.refl _ _, rfl, by simp⟩
    | 21, _ =>
      have e20 := hd 20 (cm (by kernel_rfl)); simp only [gz, gs] at e20
      refine step_yes [(20, some 58)] rfl (by kernel_rfl) fun K hK => ?_; simp only [frD, e20] at hK ⊢; refine ⟨by rfl, ?_⟩; go_simp
      exact hK _ _ ⟨Below.refl _ _, rfl, by simp⟩
    | 22, _ =>
      have e20 := hd 20 (cm (by kernel_rfl)); simp only [gz, gs] at e20; have e21 := hd 21 (cm (by kernel_rfl)); simp only [gz, gs] at e21
      refine step_yes [(20, some 58), (21, some 59)] rfl (by kernel_rfl) fun K hK => ?_; simp only [frD, e20, e21] at hK ⊢; refine ⟨by rfl, ?_⟩; go_simp
      exact hK _ _ ⟨Below.refl _ _, rfl, by simp⟩
    | 23, _ =>
      have e20 := hd 20 (cm (by kernel_rfl)); simp only [gz, gs] at e20; have e22 := hd 22 (cm (by kernel_rfl)); simp only [gz, gs] at e22
      refine step_yes [(20, some 58), (22, some 60)] rfl (by kernel_rfl) fun K hK => ?_; simp only [frD, e20, e22] at hK ⊢; refine ⟨by rfl, ?_⟩; go_simp
      exact hK _ _ ⟨Below.refl _ _, rfl, by simp⟩
    | 24, _ =>
      have e20 := hd 20 (cm (by kernel_rfl)); simp only [gz, gs] at e20; have e23 := hd 23 (cm (by kernel_rfl)); simp only [gz, gs] at e23
      refine step_yes [(20, some 58), (23, some 61)] rfl (by kernel_rfl) fun K hK => ?_; simp only [frD, e20, e23] at hK ⊢; refine ⟨by rfl, ?_⟩; go_simp
      exact hK _ _ ⟨Below.refl _ _, rfl, by simp⟩
    | 25, _ =>
      have e24 := hd 24 (cm (by kernel_rfl)); simp only [gz, gs] at e24
      refine step_yes [(24, some 62)] rfl (by kernel_rfl) fun K hK => ?_; simp only [frD, e24] at hK ⊢; refine ⟨by rfl, ?_⟩; go_simp
      exact hK _ _ ⟨Below.refl _ _, rfl, by simp⟩
    | 26, _ =>
      have e24 := hd 24 (cm (by kernel_rfl)); simp only [gz, gs] at e24
      refine step_yes [(24, some 62)] rfl (by kernel_rfl) fun K hK => ?_; simp only [frD, e24] at hK ⊢; refine ⟨by rfl, ?_⟩; go_simp
      refine ((lof_num 1 4 (by omega) (by omega) (by omega) (by omega) (by omega))).mono ?_; rintro e w4 ⟨U, rfl, hr, hk4⟩; exact hK _ _ ⟨hk4, hr, by simp⟩
    | 27, _ =>
      have e24 := hd 24 (cm (by kernel_rfl)); simp only [gz, gs] at e24; have e25 := hd 25 (cm (by kernel_rfl)); simp only [gz, gs] at e25; have h26 := hd 26 (cm (by kernel_rfl)); simp only [gz, gs] at h26
      refine step_yes [(24, some 62), (25, some 63), (26, some 64)] rfl (by kernel_rfl) fun K hK => ?_; simp only [frD, e24, e25] at hK ⊢; refine ⟨by rfl, ?_⟩; go_simp
      refine ((gsame_s (b := true) (S3.qi 6 rfl) h26 (by omega) (by decide +kernel))).mono ?_; rintro e w4 ⟨rfl, hk4⟩; exact hK _ _ ⟨hk4, rfl, by simp⟩
    | 28, _ =>
      have e24 := hd 24 (cm (by kernel_rfl)); simp only [gz, gs] at e24; have e27 := hd 27 (cm (by kernel_rfl)); simp only [gz, gs] at e27
      refine step_yes [(24, some 62), (27, some 65)] rfl (by kernel_rfl) fun K hK => ?_; simp only [frD, e24, e27] at hK ⊢; refine ⟨by rfl, ?_⟩; go_simp
      exact hK _ _ ⟨Below.refl _ _, rfl, by simp⟩
    | 29, _ =>
      have e27 := hd 27 (cm (by kernel_rfl)); simp only [gz, gs] at e27; have e28 := hd 28 (cm (by kernel_rfl)); simp only [gz, gs] at e28
      refine step_yes [(27, some 65), (28, some 66)] rfl (by kernel_rfl) fun K hK => ?_; simp only [frD, e27, e28] at hK ⊢; refine ⟨by rfl, ?_⟩; go_simp
      exact hK _ _ ⟨Below.refl _ _, rfl, by simp⟩
    | 30, _ =>
      have e29 := hd 29 (cm (by kernel_rfl)); simp only [gz, gs] at e29
      refine step_yes [(29, some 67)] rfl (by kernel_rfl) fun K hK => ?_; simp only [frD, e29] at hK ⊢; refine ⟨by rfl, ?_⟩; go_simp
      exact hK _ _ ⟨Below.refl _ _, rfl, by simp⟩
    | 31, _ =>
      have e29 := hd 29 (cm (by kernel_rfl)); simp only [gz, gs] at e29
      refine step_yes [(29, some 67)] rfl (by kernel_rfl) fun K hK => ?_; simp only [frD, e29] at hK ⊢; refine ⟨by rfl, ?_⟩; go_simp
      refine ((lof_num 5 4 (by omega) (by omega) (by omega) (by omega) (by omega))).mono ?_; rintro e w4 ⟨U, rfl, hr, hk4⟩; exact hK _ _ ⟨hk4, hr, by simp⟩
    | 32, _ =>
      have e29 := hd 29 (cm (by kernel_rfl)); simp only [gz, gs] at e29; have e30 := hd 30 (cm (by kernel_rfl)); simp only [gz, gs] at e30; have h31 := hd 31 (cm (by kernel_rfl)); simp only [gz, gs] at h31
      refine step_yes [(29, some 67), (30, some 68), (31, some 69)] rfl (by kernel_rfl) fun K hK => ?_; simp only [frD, e29, e30] at hK ⊢; refine ⟨by rfl, ?_⟩; go_simp
      refine ((gsame_s (b := true) (S3.qi 4 rfl) h31 (by omega) (by decide +kernel))).mono ?_; rintro e w4 ⟨rfl, hk4⟩; exact hK _ _ ⟨hk4, rfl, by simp⟩
    | 33, _ =>
      have e29 := hd 29 (cm (by kernel_rfl)); simp only [gz, gs] at e29; have e32 := hd 32 (cm (by kernel_rfl)); simp only [gz, gs] at e32
      refine step_yes [(29, some 67), (32, some 70)] rfl (by kernel_rfl) fun K hK => ?_; simp only [frD, e29, e32] at hK ⊢; refine ⟨by rfl, ?_⟩; go_simp
      exact hK _ _ ⟨Below.refl _ _, rfl, by simp⟩
    | 34, _ =>
      have e32 := hd 32 (cm (by kernel_rfl)); simp only [gz, gs] at e32; have e33 := hd 33 (cm (by kernel_rfl)); simp only [gz, gs] at e33
      refine step_yes [(32, some 70), (33, some 71)] rfl (by kernel_rfl) fun K hK => ?_; simp only [frD, e32, e33] at hK ⊢; refine ⟨by rfl, ?_⟩; go_simp
      exact hK _ _ ⟨Below.refl _ _, rfl, by simp⟩
    | 35, _ =>
      have e34 := hd 34 (cm (by kernel_rfl)); simp only [gz, gs] at e34
      refine step_yes [(34, some 72)] rfl (by kernel_rfl) fun K hK => ?_; simp only [frD, e34] at hK ⊢; refine ⟨by rfl, ?_⟩; go_simp
      exact hK _ _ ⟨Below.refl _ _, rfl, by simp⟩
    | 36, _ =>
      have e34 := hd 34 (cm (by kernel_rfl)); simp only [gz, gs] at e34
      refine step_yes [(34, some 72)] rfl (by kernel_rfl) fun K hK => ?_; simp only [frD, e34] at hK ⊢; refine ⟨by rfl, ?_⟩; go_simp
      refine ((lof_num 3 2 (by omega) (by omega) (by omega) (by omega) (by omega))).mono ?_; rintro e w4 ⟨U, rfl, hr, hk4⟩; exact hK _ _ ⟨hk4, hr, by simp⟩
    | 37, _ =>
      have e34 := hd 34 (cm (by kernel_rfl)); simp only [gz, gs] at e34; have e35 := hd 35 (cm (by kernel_rfl)); simp only [gz, gs] at e35; have h36 := hd 36 (cm (by kernel_rfl)); simp only [gz, gs] at h36
      refine step_yes [(34, some 72), (35, some 73), (36, some 74)] rfl (by kernel_rfl) fun K hK => ?_; simp only [frD, e34, e35] at hK ⊢; refine ⟨by rfl, ?_⟩; go_simp
      refine ((gsame_s (b := true) (S3.qi 3 rfl) h36 (by omega) (by decide +kernel))).mono ?_; rintro e w4 ⟨rfl, hk4⟩; exact hK _ _ ⟨hk4, rfl, by simp⟩
    | 38, _ =>
      have e34 := hd 34 (cm (by kernel_rfl)); simp only [gz, gs] at e34; have e37 := hd 37 (cm (by kernel_rfl)); simp only [gz, gs] at e37
      refine step_yes [(34, some 72), (37, some 75)] rfl (by kernel_rfl) fun K hK => ?_; simp only [frD, e34, e37] at hK ⊢; refine ⟨by rfl, ?_⟩; go_simp
      exact hK _ _ ⟨Below.refl _ _, rfl, by simp⟩
    | 39, _ =>
      have e37 := hd 37 (cm (by kernel_rfl)); simp only [gz, gs] at e37; have e38 := hd 38 (cm (by kernel_rfl)); simp only [gz, gs] at e38
      refine step_yes [(37, some 75), (38, some 76)] rfl (by kernel_rfl) fun K hK => ?_; simp only [frD, e37, e38] at hK ⊢; refine ⟨by rfl, ?_⟩; go_simp
      exact hK _ _ ⟨Below.refl _ _, rfl, by simp⟩
    | 40, _ =>
      have e39 := hd 39 (cm (by kernel_rfl)); simp only [gz, gs] at e39
      refine step_yes [(39, some 77)] rfl (by kernel_rfl) fun K hK => ?_; simp only [frD, e39] at hK ⊢; refine ⟨by rfl, ?_⟩; go_simp
      exact hK _ _ ⟨Below.refl _ _, rfl, by simp⟩
    | 41, _ =>
      have e39 := hd 39 (cm (by kernel_rfl)); simp only [gz, gs] at e39
      refine step_yes [(39, some 77)] rfl (by kernel_rfl) fun K hK => ?_; simp only [frD, e39] at hK ⊢; refine ⟨by rfl, ?_⟩; go_simp
      refine ((lof_num 5 16 (by omega) (by omega) (by omega) (by omega) (by omega))).mono ?_; rintro e w4 ⟨U, rfl, hr, hk4⟩; exact hK _ _ ⟨hk4, hr, by simp⟩
    | 42, _ =>
      have e39 := hd 39 (cm (by kernel_rfl)); simp only [gz, gs] at e39; have e40 := hd 40 (cm (by kernel_rfl)); simp only [gz, gs] at e40; have h41 := hd 41 (cm (by kernel_rfl)); simp only [gz, gs] at h41
      refine step_yes [(39, some 77), (40, some 78), (41, some 79)] rfl (by kernel_rfl) fun K hK => ?_; simp only [frD, e39, e40] at hK ⊢; refine ⟨by rfl, ?_⟩; go_simp
      refine ((gsame_s (b := true) (S3.qi 0 rfl) h41 (by omega) (by decide +kernel))).mono ?_; rintro e w4 ⟨rfl, hk4⟩; exact hK _ _ ⟨hk4, rfl, by simp⟩
    | 43, _ =>
      have e39 := hd 39 (cm (by kernel_rfl)); simp only [gz, gs] at e39; have e42 := hd 42 (cm (by kernel_rfl)); simp only [gz, gs] at e42
      refine step_yes [(39, some 77), (42, some 80)] rfl (by kernel_rfl) fun K hK => ?_; simp only [frD, e39, e42] at hK ⊢; refine ⟨by rfl, ?_⟩; go_simp
      exact hK _ _ ⟨Below.refl _ _, rfl, by simp⟩
    | i + 44, hi => exact absurd hi (by omega)
  · intro vs W14 hk3 hΦ _
    simp only [List.drop_succ_cons, List.drop_zero]
    rw [fr_frD, show (List.range 44).map _ = [(0, some 38), (1, some 39), (2, some 40), (3, some 41), (4, some 42), (5, some 43), (6, some 44), (7, some 45), (8, some 46), (9, some 47), (10, some 48), (11, some 49), (12, some 50), (13, some 51), (14, some 52), (15, some 53), (16, some 54), (17, some 55), (18, some 56), (19, some 57), (20, some 58), (21, some 59), (22, some 60), (23, some 61), (24, some 62), (25, some 63), (26, some 64), (27, some 65), (28, some 66), (29, some 67), (30, some 68), (31, some 69), (32, some 70), (33, some 71), (34, some 72), (35, some 73), (36, some 74), (37, some 75), (38, some 76), (39, some 77), (40, some 78), (41, some 79), (42, some 80), (43, some 81)] by kernel_rfl]
    have pa0 := hΦ 0 (by omega); simp only [gz] at pa0
    have pa1 := hΦ 1 (by omega); simp only [gz, gs] at pa1
    have pa2 := hΦ 2 (by omega); simp only [gz, gs] at pa2
    have pa3 := hΦ 3 (by omega); simp only [gz, gs] at pa3
    have pa4 := hΦ 4 (by omega); simp only [gz, gs] at pa4
    have pa5 := hΦ 5 (by omega); simp only [gz, gs] at pa5
    have pa6 := hΦ 6 (by omega); simp only [gz, gs] at pa6
    have pa7 := hΦ 7 (by omega); simp only [gz, gs] at pa7
    have pa8 := hΦ 8 (by omega); simp only [gz, gs] at pa8
    have pa9 := hΦ 9 (by omega); simp only [gz, gs] at pa9
    have pa10 := hΦ 10 (by omega); simp only [gz, gs] at pa10
    have pa11 := hΦ 11 (by omega); simp only [gz, gs] at pa11
    have pa12 := hΦ 12 (by omega); simp only [gz, gs] at pa12
    have pa13 := hΦ 13 (by omega); simp only [gz, gs] at pa13
    have pa14 := hΦ 14 (by omega); simp only [gz, gs] at pa14
    have pa15 := hΦ 15 (by omega); simp only [gz, gs] at pa15
    have pa16 := hΦ 16 (by omega); simp only [gz, gs] at pa16
    have pa17 := hΦ 17 (by omega); simp only [gz, gs] at pa17
    have pa18 := hΦ 18 (by omega); simp only [gz, gs] at pa18
    have pa19 := hΦ 19 (by omega); simp only [gz, gs] at pa19
    have pa20 := hΦ 20 (by omega); simp only [gz, gs] at pa20
    have pa21 := hΦ 21 (by omega); simp only [gz, gs] at pa21
    have pa22 := hΦ 22 (by omega); simp only [gz, gs] at pa22
    have pa23 := hΦ 23 (by omega); simp only [gz, gs] at pa23
    have pa24 := hΦ 24 (by omega); simp only [gz, gs] at pa24
    have pa25 := hΦ 25 (by omega); simp only [gz, gs] at pa25
    have pa26 := hΦ 26 (by omega); simp only [gz, gs] at pa26
    have pa27 := hΦ 27 (by omega); simp only [gz, gs] at pa27
    have pa28 := hΦ 28 (by omega); simp only [gz, gs] at pa28
    have pa29 := hΦ 29 (by omega); simp only [gz, gs] at pa29
    have pa30 := hΦ 30 (by omega); simp only [gz, gs] at pa30
    have pa31 := hΦ 31 (by omega); simp only [gz, gs] at pa31
    have pa32 := hΦ 32 (by omega); simp only [gz, gs] at pa32
    have pa33 := hΦ 33 (by omega); simp only [gz, gs] at pa33
    have pa34 := hΦ 34 (by omega); simp only [gz, gs] at pa34
    have pa35 := hΦ 35 (by omega); simp only [gz, gs] at pa35
    have pa36 := hΦ 36 (by omega); simp only [gz, gs] at pa36
    have pa37 := hΦ 37 (by omega); simp only [gz, gs] at pa37
    have pa38 := hΦ 38 (by omega); simp only [gz, gs] at pa38
    have pa39 := hΦ 39 (by omega); simp only [gz, gs] at pa39
    have pa40 := hΦ 40 (by omega); simp only [gz, gs] at pa40
    have pa41 := hΦ 41 (by omega); simp only [gz, gs] at pa41
    have pa42 := hΦ 42 (by omega); simp only [gz, gs] at pa42
    have pa43 := hΦ 43 (by omega); simp only [gz, gs] at pa43
    clear hΦ
    simp only [frD, pa0, pa1, pa2, pa3, pa4, pa5, pa6, pa7, pa8, pa9, pa10, pa11, pa13, pa14, pa15, pa16, pa17, pa18, pa19, pa20, pa21, pa22, pa23, pa24, pa25, pa27, pa28, pa29, pa30, pa32, pa33, pa34, pa35, pa37, pa38, pa39, pa40, pa42, pa43]
    simp only [Act.put, List.setIfInBounds_toArray, List.set_cons_zero, List.set_cons_succ]
    clear pa0 pa1 pa2 pa3 pa4 pa5 pa6 pa7 pa8 pa9 pa10 pa11 pa13 pa14 pa15 pa16 pa17 pa18 pa19 pa20 pa21 pa22 pa23 pa24 pa25 pa27 pa28 pa29 pa30 pa32 pa33 pa34 pa35 pa37 pa38 pa39 pa40 pa42 pa43
    generalize vs 12 = Upa12 at pa12 ⊢
    generalize vs 26 = Upa26 at pa26 ⊢
    generalize vs 31 = Upa31 at pa31 ⊢
    generalize vs 36 = Upa36 at pa36 ⊢
    generalize vs 41 = Upa41 at pa41 ⊢
    replace S := S.drew.below hk3
    clear pa12
    clear pa26
    clear pa31
    clear pa36
    clear pa41
    clear hk3
    go_wp2
    go_ret
    exact ⟨rfl, S.k⟩
end Go.Proofs.YtmochehkkadjnaaGreatDoor
