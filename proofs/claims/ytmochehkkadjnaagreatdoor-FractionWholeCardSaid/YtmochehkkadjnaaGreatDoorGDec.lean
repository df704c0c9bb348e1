/- The walks of the reference's tens and Decimal. -/
import Derived.Test.YtmochehkkadjnaaGreatDoorGRest
import Derived.Test.YtmochehkkadjnaaGreatDoorMgStab
import Derived.Test.YtmochehkkadjnaaGreatDoorFDec
import Derived.Test.YtmochehkkadjnaaGreatDoorRTextL
namespace Go.Proofs.YtmochehkkadjnaaGreatDoor
open Go.RowKit Go.Shelf

theorem rpower_small {w : World} {V : Value} {z : Int} {n : Int} (h : IntRep w V z) (hn : 0 ≤ n) (hn2 : n ≤ 4096) (hd : n * (dgs z.natAbs : Nat) ≤ 20000) (hl : lenI z ≤ 900000) :
    Calls Tryz.prog 153 #[V, .int .i64 n] w fun e w' => ∃ Q, e = .returned (.tuple #[Q, .int .i64 0]) ∧ IntRep w' Q (z ^ n.toNat) ∧ Keeps w w' := by
  have := rpower_any _ _ V n w h.arg hl (by omega) (by omega)
  rw [cnt_rep] at this
  have hc : powC z n = 0 := by
    unfold powC
    rw [if_neg (by omega), if_neg (by omega)]
  rwa [hc, show powZ z n = z ^ n.toNat from if_pos hc] at this
theorem half_eq : Rat.divInt 1 2 = halfR := rfl
def strLen : Value → Nat | .string s => s.size | _ => 0
set_option maxRecDepth 100000 in
set_option maxHeartbeats 1000000 in
theorem gtens_num {w : World} (n : Int) (h0 : 0 ≤ n) (h1 : n ≤ 100) : Calls Tryz.prog 113 #[.int .i64 n] w (Gives (10 ^ n.toNat) w) := by
  have S := (St.start w)
  go_enter Tryz.func113, Tryz.ntmps113
  go_wp2_with fail
  replace S := (S.alloc 24 [.bool false, .slice none 0 0])
  obtain ⟨W1, eW, S⟩ := S.pack
  rw [eW]
  clear eW
  refine ((whole_int 10 (by omega) (by omega))).mono ?_
  rintro e W2 ⟨U2, rfl, hp, hk⟩
  obtain ⟨b3, A3, n3, c3, rfl⟩ := hp.open3
  replace S := (S.below hk).addI hp
  clear hk hp
  go_wp2_with fail
  refine ((rpower_small (S.ii 0 rfl) h0 (by omega) (by rw [show (10 : Int).natAbs = 10 from rfl, dgs_ten2]; omega) (Nat.le_trans (dig_length_le (n := (10 : Int).natAbs) (k := 1) (by decide)) (by omega)))).mono ?_
  rintro e W3 ⟨U3, rfl, hp, hk⟩
  obtain ⟨b4, A4, n4, c4, rfl⟩ := hp.open3
  replace S := (S.below hk).addI hp
  clear hk hp
  go_upto_region 2 with fail
  replace S := (S.alloc 24 [.bool b4, .slice A4 n4 c4])
  obtain ⟨W4, eW, S⟩ := S.pack
  rw [eW]
  clear eW
  generalize W3.heap.size = P1 at *
  have r0_0 := S.c 1 0 rfl rfl
  have f0_0 := S.f 1 0 rfl
  have r0_1 := S.c 1 1 rfl rfl
  have f0_1 := S.f 1 1 rfl
  have r1_0 := S.c 0 0 rfl rfl
  have r1_1 := S.c 0 1 rfl rfl
  go_wp2
  replace S := (S.put2 1 rfl rfl rfl (x' := .bool b4) (y' := .slice A4 n4 c4))
  refine bodyPost_ret (v := .agg #[.bool b4, .slice A4 n4 c4]) (by simp [results, Tryz.results113, go_sem, S.c 1 0 rfl rfl, S.c 1 1 rfl rfl]) rfl ?_
  exact ⟨_, rfl, S.ii 0 rfl, S.k⟩
set_option maxRecDepth 100000 in
set_option maxHeartbeats 1000000 in
theorem gdec_neg {w : World} {V1 : Value} {x : Rat} {k : Int} (h1 : RatNum w V1 x) (hk0 : k < 0) : Calls Tryz.prog 46 #[V1, .int .i64 k] w (fun e w' => e = .returned (.tuple #[.string ⟨#[]⟩, .int .i64 2]) ∧ Keeps w w') := by
  obtain ⟨b3, A3, n3, c3, d3, B3, m3, e3, rfl⟩ := h1.open_
  have z0 := h1.sz
  have t1 : decide (k < 0) = true := by exact decide_eq_true hk0
  have S := ((St.start w).addR h1)
  clear h1
  go_enter Tryz.func46, Tryz.ntmps46
  go_wp2
  replace S := (S.alloc 28 [.bool b3, .slice A3 n3 c3, .bool d3, .slice B3 m3 e3])
  go_ret2
  exact ⟨rfl, S.k⟩
set_option maxRecDepth 100000 in
set_option maxHeartbeats 1000000 in
theorem gdec_big {w : World} {V1 : Value} {x : Rat} {k : Int} (h1 : RatNum w V1 x) (hk0 : 100 < k) : Calls Tryz.prog 46 #[V1, .int .i64 k] w (fun e w' => e = .returned (.tuple #[.string ⟨#[]⟩, .int .i64 2]) ∧ Keeps w w') := by
  obtain ⟨b3, A3, n3, c3, d3, B3, m3, e3, rfl⟩ := h1.open_
  have z0 := h1.sz
  have t1 : decide (k < 0) = false := by exact decide_eq_false (by omega)
  have t2 : decide (100 < k) = true := by exact decide_eq_true hk0
  have S := ((St.start w).addR h1)
  clear h1
  go_enter Tryz.func46, Tryz.ntmps46
  go_wp2
  replace S := (S.alloc 28 [.bool b3, .slice A3 n3 c3, .bool d3, .slice B3 m3 e3])
  go_ret2
  exact ⟨rfl, S.k⟩
set_option maxRecDepth 100000 in
set_option maxHeartbeats 2000000 in
theorem gdec_good {w : World} {V1 : Value} {x : Rat} {k : Nat} (h1 : RatNum w V1 x) (hk1 : k ≤ 100) (zx : szR x ≤ 20000) : Calls Tryz.prog 46 #[V1, .int .i64 (k : Int)] w (fun e w' => e = .returned (.tuple #[.string ⟨(decT (nearR (x * ((10 ^ k : Int) : Rat))) k).toArray⟩, .int .i64 0]) ∧ Keeps w w') := by
  obtain ⟨b3, A3, n3, c3, d3, B3, m3, e3, rfl⟩ := h1.open_
  have z0 := h1.sz
  have u1 := lenI_ten k hk1
  have u2 := szR_int (10 ^ k)
  have u3 := szR_mul x ((10 ^ k : Int) : Rat)
  have u4 := len_near (x * ((10 ^ k : Int) : Rat))
  have u5 := szR_add (x * ((10 ^ k : Int) : Rat)) halfR
  have u6 := szR_half
  have u7 := lenI_one
  have u8 : lenI 2 ≤ 1 := dig_length_le (n := (2 : Int).natAbs) (k := 1) (by decide)
  obtain ⟨nz, hnz⟩ : ∃ z, nearR (x * ((10 ^ k : Int) : Rat)) = z := ⟨_, rfl⟩
  rw [hnz] at u4
  have HZ := Lib.hid hnz
  have HF := Lib.hid (show (x * ((10 ^ k : Int) : Rat) + halfR).floor = nz from hnz)
  clear hnz
  obtain ⟨T, hT⟩ : ∃ T, textL nz.natAbs = T := ⟨_, rfl⟩
  have v1 := textL_le (nz.natAbs : Int)
  have v2 : lenI (nz.natAbs : Int) = lenI nz := by unfold lenI; rw [Int.natAbs_natCast]
  rw [hT] at v1
  have v4 : lenI nz ≤ 100000 := by omega
  have v5 : lenI (nz.natAbs : Int) ≤ 100000 := by omega
  have v3 : (T.length : Int) ≤ 200000 := by omega
  have HT := Lib.hid hT
  clear hT v1 v2
  have y0 := szR_mul x (((10 ^ k : Int) : Rat))
  have y1 := szR_add (x * (((10 ^ k : Int) : Rat))) halfR
  have y2 := lenI_floor ((x * (((10 ^ k : Int) : Rat))) + halfR)
  have t1 : decide ((k : Int) < 0) = false := by exact decide_eq_false (by omega)
  have t2 : decide (100 < (k : Int)) = false := by exact decide_eq_false (by omega)
  have S := ((St.start w).addR h1)
  clear h1
  go_enter Tryz.func46, Tryz.ntmps46
  go_wp2_with fail
  replace S := (S.alloc 28 [.bool b3, .slice A3 n3 c3, .bool d3, .slice B3 m3 e3])
  obtain ⟨W1, eW, S⟩ := S.pack
  rw [eW]
  clear eW
  refine ((whole_int 1 (by omega) (by omega))).mono ?_
  rintro e W2 ⟨U2, rfl, hp, hk⟩
  obtain ⟨b4, A4, n4, c4, rfl⟩ := hp.open3
  replace S := (S.below hk).addI hp
  clear hk hp
  go_wp2_with fail
  refine ((whole_int 2 (by omega) (by omega))).mono ?_
  rintro e W3 ⟨U3, rfl, hp, hk⟩
  obtain ⟨b5, A5, n5, c5, rfl⟩ := hp.open3
  replace S := (S.below hk).addI hp
  clear hk hp
  go_wp2_with fail
  refine ((rgives_eq (greduced_num ((S.ii 1 rfl).num4 (by omega)) ((S.ii 0 rfl).num4 (by omega)) (by omega)) half_eq)).mono ?_
  rintro e W4 ⟨U4, rfl, hp, hk⟩
  obtain ⟨b6, A6, n6, c6, d6, B6, m6, e6, rfl⟩ := hp.open_
  replace S := (S.below hk).addQ hp
  clear hk hp
  go_upto_region 4 with fail
  replace S := (S.alloc 28 [.bool b6, .slice A6 n6 c6, .bool d6, .slice B6 m6 e6])
  obtain ⟨W5, eW, S⟩ := S.pack
  rw [eW]
  clear eW
  generalize W4.heap.size = P1 at *
  refine wp_region_steps (m := 7) rfl (by kernel_rfl) (fun iΦ vΦ wΦ => (List.getD [fun vΦ _ => vΦ = .agg #[.bool b3, .slice A3 n3 c3, .bool d3, .slice B3 m3 e3], fun vΦ _ => vΦ = .int .i64 (k : Int), fun vΦ wΦ => IntRep wΦ vΦ (10 ^ k), fun vΦ wΦ => IntRep wΦ vΦ (1), fun vΦ wΦ => RatRep wΦ vΦ (((10 ^ k : Int) : Rat)), fun vΦ wΦ => RatRep wΦ vΦ (x * (((10 ^ k : Int) : Rat))), fun vΦ wΦ => ∃ b, vΦ = .pointer (some ⟨b, 0, none⟩) ∧ W5.heap.size ≤ b ∧ Own wΦ b 28 [.bool false, .slice none 0 0, .bool false, .slice none 0 0]] iΦ (fun _ _ => True)) vΦ wΦ) [6] ?_ ?_ ?_
  · intro i v w w' _ h hk
    refine stabL_get ?_ i v w w' h hk
    exact stab_cons st_e (stab_cons st_e (stab_cons st_i (stab_cons st_i (stab_cons st_q (stab_cons st_q (stab_cons st_a stab_nil))))))
  · intro i hi vs w3 hk3 hd
    have S3 := S.drew.below hk3
    have a0 := S3.c 1 0 rfl rfl
    have a1 := S3.c 1 1 rfl rfl
    have a2 := S3.c 1 2 rfl rfl
    have a3 := S3.c 1 3 rfl rfl
    match i, hi with
    | 0, _ =>
      refine step_val0 [] (fun vΦ _ => vΦ = .agg #[.bool b3, .slice A3 n3 c3, .bool d3, .slice B3 m3 e3]) rfl (by kernel_rfl) rfl (fun _ _ h => h) rfl fun K hK => ?_; clear hd; simp only [frD] at hK ⊢; go_simp
      exact hK _ _ (Below.refl _ _) rfl
    | 1, _ =>
      refine step_val0 [] (fun vΦ _ => vΦ = .int .i64 (k : Int)) rfl (by kernel_rfl) rfl (fun _ _ h => h) rfl fun K hK => ?_; clear hd; simp only [frD] at hK ⊢; go_simp
      exact hK _ _ (Below.refl _ _) rfl
    | 2, _ =>
      have qe1 : (vs 1) = .int .i64 (k : Int) := hd 1 (cm (by kernel_rfl))
      refine step_call (F := 113) (X := .func (.func 113) #[] #[]) (A := #[(vs 1)]) (B := #[.int .i64 (k : Int)]) [(1, some 20)] (fun vΦ wΦ => IntRep wΦ vΦ (10 ^ k)) rfl (by kernel_rfl) (fun _ _ h => h) rfl (wanted_none rfl) rfl rfl (by kernel_rfl) rfl (by kernel_rfl) (by rw [qe1]) Tryz.func113 (by kernel_rfl) (by kernel_rfl) ?_
      refine ((gives_eq (gtens_num (k : Int) (by omega) (by omega)) (by rw [Int.toNat_natCast]))).mono ?_; rintro e w4 ⟨U, rfl, hr, hk4⟩; exact ⟨_, rfl, hk4, hr⟩
    | 3, _ =>
      have h2 : IntRep w3 (vs 2) (10 ^ k) := hd 2 (cm (by kernel_rfl))
      refine step_call (F := 85) (X := .func (.func 85) #[] #[]) (A := #[.int .i64 1]) (B := #[.int .i64 1]) [(2, some 21)] (fun vΦ wΦ => IntRep wΦ vΦ (1)) rfl (by kernel_rfl) (fun _ _ h => h) rfl (wanted_none rfl) rfl rfl (by kernel_rfl) rfl (by kernel_rfl) rfl Tryz.func85 (by kernel_rfl) (by kernel_rfl) ?_
      refine ((whole_int 1 (by omega) (by omega))).mono ?_; rintro e w4 ⟨U, rfl, hr, hk4⟩; exact ⟨_, rfl, hk4, hr⟩
    | 4, _ =>
      have h2 : IntRep w3 (vs 2) (10 ^ k) := hd 2 (cm (by kernel_rfl)); have h3 : IntRep w3 (vs 3) (1) := hd 3 (cm (by kernel_rfl)); obtain ⟨b9a, A9a, n9a, c9a, q9a⟩ := h2.open3; obtain ⟨b9b, A9b, n9b, c9b, q9b⟩ := h3.open3
      refine step_val0 [(2, some 21), (3, some 22)] (fun vΦ wΦ => RatRep wΦ vΦ (((10 ^ k : Int) : Rat))) rfl (by kernel_rfl) rfl (fun _ _ h => h) rfl fun K hK => ?_; clear hd; simp only [frD, q9a, q9b] at hK ⊢; go_simp
      rw [q9a] at h2
      rw [q9b] at h3
      exact hK _ _ (Below.refl _ _) (RatRep.whole h2 h3)
    | 5, _ =>
      have qe0 : (vs 0) = .agg #[.bool b3, .slice A3 n3 c3, .bool d3, .slice B3 m3 e3] := hd 0 (cm (by kernel_rfl)); have h3 : IntRep w3 (vs 3) (1) := hd 3 (cm (by kernel_rfl)); have h4 : RatRep w3 (vs 4) (((10 ^ k : Int) : Rat)) := hd 4 (cm (by kernel_rfl))
      refine step_call (F := 61) (X := .func (.func 61) #[] #[]) (A := #[(vs 0), (vs 4)]) (B := #[.agg #[.bool b3, .slice A3 n3 c3, .bool d3, .slice B3 m3 e3], (vs 4)]) [(0, some 19), (3, some 22), (4, some 23)] (fun vΦ wΦ => RatRep wΦ vΦ (x * (((10 ^ k : Int) : Rat)))) rfl (by kernel_rfl) (fun _ _ h => h) rfl (wanted_none rfl) rfl rfl (by kernel_rfl) rfl (by kernel_rfl) (by rw [qe0]) Tryz.func61 (by kernel_rfl) (by kernel_rfl) ?_
      refine ((gmul_num (S3.ri 3 rfl) (h4.num (by omega)))).mono ?_; rintro e w4 ⟨U, rfl, hr, hk4⟩; exact ⟨_, rfl, hk4, hr⟩
    | 6, _ =>
      refine step_yes [] rfl (by kernel_rfl) fun K hK => ?_; simp only [frD] at hK ⊢; refine ⟨by rfl, ?_⟩; go_simp
      exact hK _ _ ⟨(Below.refl _ _).alloc (Nat.le_refl _) _, ⟨_, rfl, hk3.size, Own.new w3 _ _⟩, fun _ => ⟨rfl, by simp⟩⟩
    | i + 7, hi => exact absurd hi (by omega)
  · intro vs W6 hk3 hΦ _
    simp only [List.drop_succ_cons, List.drop_zero]
    rw [fr_frD, show (List.range 7).map _ = [(0, some 19), (1, some 20), (2, some 21), (3, some 22), (4, some 23), (5, some 24), (6, some 7)] by kernel_rfl]
    have pa0 : (vs 0) = .agg #[.bool b3, .slice A3 n3 c3, .bool d3, .slice B3 m3 e3] := hΦ 0 (by decide)
    have pa1 : (vs 1) = .int .i64 (k : Int) := hΦ 1 (by decide)
    have pa2 : IntRep W6 (vs 2) (10 ^ k) := hΦ 2 (by decide)
    have pa3 : IntRep W6 (vs 3) (1) := hΦ 3 (by decide)
    have pa4 : RatRep W6 (vs 4) (((10 ^ k : Int) : Rat)) := hΦ 4 (by decide)
    have pa5 : RatRep W6 (vs 5) (x * (((10 ^ k : Int) : Rat))) := hΦ 5 (by decide)
    have pa6 : ∃ b, (vs 6) = .pointer (some ⟨b, 0, none⟩) ∧ W5.heap.size ≤ b ∧ Own W6 b 28 [.bool false, .slice none 0 0, .bool false, .slice none 0 0] := hΦ 6 (by decide)
    clear hΦ
    obtain ⟨bpa6, qA6, hlA6, hOA6⟩ := pa6
    simp only [frD, pa0, pa1, qA6]
    simp only [Act.put, List.setIfInBounds_toArray, List.set_cons_zero, List.set_cons_succ]
    clear pa0 pa1
    generalize vs 2 = Upa2 at pa2 ⊢
    generalize vs 3 = Upa3 at pa3 ⊢
    generalize vs 4 = Upa4 at pa4 ⊢
    generalize vs 5 = Upa5 at pa5 ⊢
    replace S := S.drew.box (S.drew.below hk3) hOA6 hlA6
    clear qA6 hlA6 hOA6
    clear pa2
    clear pa3
    clear pa4
    obtain ⟨b7, A7, n7, c7, d7, B7, m7, e7, rfl⟩ := pa5.open_
    replace S := S.addQ pa5
    clear pa5
    clear hk3
    have r2_0 := S.c 0 0 rfl rfl
    have f2_0 := S.f 0 0 rfl
    have r2_1 := S.c 0 1 rfl rfl
    have f2_1 := S.f 0 1 rfl
    have r2_2 := S.c 0 2 rfl rfl
    have f2_2 := S.f 0 2 rfl
    have r2_3 := S.c 0 3 rfl rfl
    have f2_3 := S.f 0 3 rfl
    go_upto_region 5 with fail
    replace S := (S.put4 0 rfl rfl rfl (x' := .bool b7) (y' := .slice A7 n7 c7) (z' := .bool d7) (u' := .slice B7 m7 e7))
    obtain ⟨W7, eW, S⟩ := S.pack
    rw [eW]
    clear eW
    clear r2_0 f2_0 r2_1 f2_1 r2_2 f2_2 r2_3 f2_3
    have r1_0 := S.c 1 0 rfl rfl
    have r1_1 := S.c 1 1 rfl rfl
    have r1_2 := S.c 1 2 rfl rfl
    have r1_3 := S.c 1 3 rfl rfl
    have r2_0 := S.c 0 0 rfl rfl
    have r2_1 := S.c 0 1 rfl rfl
    have r2_2 := S.c 0 2 rfl rfl
    have r2_3 := S.c 0 3 rfl rfl
    go_wp2_with fail
    refine ((gadd_num ((S.qi 0 rfl).num (by omega)) ((S.qi 1 rfl).num (by omega)))).mono ?_
    rintro e W8 ⟨U8, rfl, hp, hk⟩
    obtain ⟨b8, A8, n8, c8, d8, B8, m8, e8, rfl⟩ := hp.open_
    replace S := (S.below hk).addQ hp
    clear hk hp
    clear r1_0 r1_1 r1_2 r1_3 r2_0 r2_1 r2_2 r2_3
    go_wp2_with fail
    refine ((gives_eq (gfloor_num ((S.qi 0 rfl).num (by omega))) HF.out)).mono ?_
    rintro e W9 ⟨U9, rfl, hp, hk⟩
    obtain ⟨b9, A9, n9, c9, rfl⟩ := hp.open3
    replace S := (S.below hk).addI hp
    clear hk hp
    go_upto_region 6 with fail
    replace S := (S.alloc 24 [.bool b9, .slice A9 n9 c9])
    obtain ⟨W10, eW, S⟩ := S.pack
    rw [eW]
    clear eW
    generalize W9.heap.size = P2 at *
    have r3_0 := S.c 0 0 rfl rfl
    have r3_1 := S.c 0 1 rfl rfl
    go_wp2_with fail
    refine ((rabs_num ((S.ii 0 rfl).num (by omega)))).mono ?_
    rintro e W11 ⟨U11, rfl, hp, hk⟩
    obtain ⟨b10, A10, n10, c10, rfl⟩ := hp.open3
    replace S := (S.below hk).addI hp
    clear hk hp
    clear r3_0 r3_1
    go_wp2_with fail
    refine ((rtext_l ((S.ii 0 rfl).num (by omega)) HT.out)).mono ?_
    rintro e W12 ⟨rfl, hk⟩
    replace S := S.below hk
    clear hk
    go_wp2
    clear u1 u2 u3 u4 u5 u6 u7 u8 z0 zx
    go_loop [9] (fun s => ∃ j : Nat, j ≤ k + 1 - T.length ∧ s = .string ⟨(List.replicate j 48 ++ T).toArray⟩) (fun s => k + 1 - strLen s)
    case atStart => exact ⟨0, Nat.zero_le _, rfl⟩
    case round =>
      obtain ⟨j, hj, rfl⟩ := hrel
      obtain ⟨L, hL⟩ : ∃ L, List.replicate j (48 : UInt8) ++ T = L := ⟨_, rfl⟩
      have hLl : L.length ≤ j + T.length ∧ j + T.length ≤ L.length := by rw [← hL]; simp
      rw [hL]
      have HL := Lib.hid hL
      clear hL
      have hLI : (L.length : Int) ≤ 300000 := by omega
      by_cases hlt : L.length ≤ k
      · have t3 : decide ((L.length : Int) ≤ (k : Int)) = true := decide_eq_true (by omega)
        have hc : ByteArray.mk #[48] ++ ByteArray.mk L.toArray = ByteArray.mk (48 :: L).toArray := cat_str [48] L
        go_wp2
        go_round
        case rel => exact ⟨j + 1, by omega, by rw [← HL.out]; rfl⟩
        case measure =>
          show k + 1 - (48 :: L).toArray.size < k + 1 - L.toArray.size
          rw [List.size_toArray, List.size_toArray, List.length_cons]; omega
      · have t3 : decide ((L.length : Int) ≤ (k : Int)) = false := decide_eq_false (by omega)
        have hP : padL k T = L := by
          rw [← HL.out]; unfold padL
          rw [show k + 1 - T.length = j by omega]
        have hD : decT nz k = (if nz < 0 then [45] else []) ++ (L.take (L.length - k) ++ (if 0 < k then 46 :: L.drop (L.length - k) else [])) := by unfold decT; rw [HT.out, hP]
        clear hP
        by_cases hk0 : 0 < k
        · obtain ⟨X, hX⟩ : ∃ X, L.take (L.length - k) = X := ⟨_, rfl⟩
          obtain ⟨Y, hY⟩ : ∃ Y, L.drop (L.length - k) = Y := ⟨_, rfl⟩
          obtain ⟨U, hU⟩ : ∃ U, X ++ [46] = U := ⟨_, rfl⟩
          obtain ⟨M, hM⟩ : ∃ M, U ++ Y = M := ⟨_, rfl⟩
          obtain ⟨m, hm⟩ : ∃ m, L.length - k = m := ⟨_, rfl⟩
          have qm : IntKind.i64.wrap ((L.length : Int) - (k : Int)) = (m : Int) := by rw [IntWalk.i64_in _ (by omega)]; omega
          have mI : (m : Int) ≤ (L.length : Int) := by omega
          have xI : (X.length : Int) ≤ 300000 := by rw [← hX, List.length_take]; omega
          have xN : ¬ 9223372036854775807 < X.length + 1 := by omega
          have yI : (Y.length : Int) ≤ 300000 := by rw [← hY, List.length_drop]; omega
          have uI : (U.length : Int) ≤ 300001 := by rw [← hU, List.length_append, List.length_singleton]; omega
          have mI2 : (M.length : Int) ≤ 600001 := by rw [← hM, List.length_append]; omega
          have E1 : (ByteArray.mk L.toArray).extract 0 m = ByteArray.mk X.toArray := by
            rw [← hX, hm, Lib.extract_eq]; simp
          have E2 : (ByteArray.mk L.toArray).extract m L.length = ByteArray.mk Y.toArray := by
            rw [← hY, hm, Lib.extract_eq]
            have : (L.drop m).take (L.length - m) = L.drop m := List.take_of_length_le (by rw [List.length_drop]; omega)
            simp only [this]
          have E3 : ByteArray.mk X.toArray ++ ByteArray.mk #[46] = ByteArray.mk U.toArray := by rw [← hU]; exact cat_str X [46]
          have E4 : ByteArray.mk U.toArray ++ ByteArray.mk Y.toArray = ByteArray.mk M.toArray := by rw [← hM]; exact cat_str U Y
          have E5 : ByteArray.mk #[45] ++ ByteArray.mk M.toArray = ByteArray.mk (45 :: M).toArray := cat_str [45] M
          have hD2 : decT nz k = (if nz < 0 then [45] else []) ++ M := by rw [hD, if_pos hk0, hX, hY, ← hM, ← hU]; simp
          have HDn := Lib.hid (show nz < 0 → decT nz k = 45 :: M from fun h => by rw [hD2, if_pos h]; rfl)
          have HDp := Lib.hid (show 0 ≤ nz → decT nz k = M from fun h => by rw [hD2, if_neg (by omega)]; rfl)
          clear hD hD2 hX hY hU hM hm
          obtain ⟨s1, hs1⟩ : ∃ s, (nz).sign = s := ⟨_, rfl⟩
          have t1 : decide (0 < (k : Int)) = true := by exact decide_eq_true (by omega)
          have HS1 := Lib.hid hs1
          clear hs1
          go_upto_region 10 with fail
          refine wp_region_steps (m := 13) rfl (by kernel_rfl) (fun iΦ vΦ wΦ => (List.getD [fun vΦ _ => vΦ = .string ⟨L.toArray⟩, fun vΦ _ => vΦ = .string ⟨L.toArray⟩, fun vΦ _ => vΦ = .int .i64 (L.length : Int), fun vΦ _ => vΦ = .int .i64 (k : Int), fun vΦ _ => vΦ = .int .i64 (m : Int), fun vΦ _ => vΦ = .string ⟨X.toArray⟩, fun vΦ _ => vΦ = .string ⟨U.toArray⟩, fun vΦ _ => vΦ = .string ⟨L.toArray⟩, fun vΦ _ => vΦ = .string ⟨L.toArray⟩, fun vΦ _ => vΦ = .int .i64 (L.length : Int), fun vΦ _ => vΦ = .int .i64 (k : Int), fun vΦ _ => vΦ = .int .i64 (m : Int), fun vΦ _ => vΦ = .string ⟨Y.toArray⟩] iΦ (fun _ _ => True)) vΦ wΦ) [] ?_ ?_ ?_
          · intro i v w w' _ h hk
            refine stabL_get ?_ i v w w' h hk
            exact stab_cons st_e (stab_cons st_e (stab_cons st_e (stab_cons st_e (stab_cons st_e (stab_cons st_e (stab_cons st_e (stab_cons st_e (stab_cons st_e (stab_cons st_e (stab_cons st_e (stab_cons st_e (stab_cons st_e stab_nil))))))))))))
          · intro i hi vs w3 hk3 hd
            have S3 := S.drew.below hk3
            match i, hi with
            | 0, _ =>
              refine step_val0 [] (fun vΦ _ => vΦ = .string ⟨L.toArray⟩) rfl (by kernel_rfl) rfl (fun _ _ h => h) rfl fun K hK => ?_; clear hd; simp only [frD] at hK ⊢; go_simp
              exact hK _ _ (Below.refl _ _) rfl
            | 1, _ =>
              refine step_val0 [] (fun vΦ _ => vΦ = .string ⟨L.toArray⟩) rfl (by kernel_rfl) rfl (fun _ _ h => h) rfl fun K hK => ?_; clear hd; simp only [frD] at hK ⊢; go_simp
              exact hK _ _ (Below.refl _ _) rfl
            | 2, _ =>
              have qe1 : (vs 1) = .string ⟨L.toArray⟩ := hd 1 (cm (by kernel_rfl))
              refine step_val0 [(1, some 41)] (fun vΦ _ => vΦ = .int .i64 (L.length : Int)) rfl (by kernel_rfl) rfl (fun _ _ h => h) rfl fun K hK => ?_; clear hd; simp only [frD, qe1] at hK ⊢; go_simp
              exact hK _ _ (Below.refl _ _) rfl
            | 3, _ =>
              refine step_val0 [] (fun vΦ _ => vΦ = .int .i64 (k : Int)) rfl (by kernel_rfl) rfl (fun _ _ h => h) rfl fun K hK => ?_; clear hd; simp only [frD] at hK ⊢; go_simp
              exact hK _ _ (Below.refl _ _) rfl
            | 4, _ =>
              have qe2 : (vs 2) = .int .i64 (L.length : Int) := hd 2 (cm (by kernel_rfl)); have qe3 : (vs 3) = .int .i64 (k : Int) := hd 3 (cm (by kernel_rfl))
              refine step_val0 [(2, some 42), (3, some 43)] (fun vΦ _ => vΦ = .int .i64 (m : Int)) rfl (by kernel_rfl) rfl (fun _ _ h => h) rfl fun K hK => ?_; clear hd; simp only [frD, qe2, qe3] at hK ⊢; go_simp
              exact hK _ _ (Below.refl _ _) rfl
            | 5, _ =>
              have qe0 : (vs 0) = .string ⟨L.toArray⟩ := hd 0 (cm (by kernel_rfl)); have qe4 : (vs 4) = .int .i64 (m : Int) := hd 4 (cm (by kernel_rfl))
              refine step_val0 [(0, some 40), (4, some 44)] (fun vΦ _ => vΦ = .string ⟨X.toArray⟩) rfl (by kernel_rfl) rfl (fun _ _ h => h) rfl fun K hK => ?_; clear hd; simp only [frD, qe0, qe4] at hK ⊢; go_simp
              exact hK _ _ (Below.refl _ _) rfl
            | 6, _ =>
              have qe5 : (vs 5) = .string ⟨X.toArray⟩ := hd 5 (cm (by kernel_rfl))
              refine step_val0 [(5, some 45)] (fun vΦ _ => vΦ = .string ⟨U.toArray⟩) rfl (by kernel_rfl) rfl (fun _ _ h => h) rfl fun K hK => ?_; clear hd; simp only [frD, qe5] at hK ⊢; go_simp
              exact hK _ _ (Below.refl _ _) rfl
            | 7, _ =>
              refine step_val0 [] (fun vΦ _ => vΦ = .string ⟨L.toArray⟩) rfl (by kernel_rfl) rfl (fun _ _ h => h) rfl fun K hK => ?_; clear hd; simp only [frD] at hK ⊢; go_simp
              exact hK _ _ (Below.refl _ _) rfl
            | 8, _ =>
              refine step_val0 [] (fun vΦ _ => vΦ = .string ⟨L.toArray⟩) rfl (by kernel_rfl) rfl (fun _ _ h => h) rfl fun K hK => ?_; clear hd; simp only [frD] at hK ⊢; go_simp
              exact hK _ _ (Below.refl _ _) rfl
            | 9, _ =>
              have qe8 : (vs 8) = .string ⟨L.toArray⟩ := hd 8 (cm (by kernel_rfl))
              refine step_val0 [(8, some 48)] (fun vΦ _ => vΦ = .int .i64 (L.length : Int)) rfl (by kernel_rfl) rfl (fun _ _ h => h) rfl fun K hK => ?_; clear hd; simp only [frD, qe8] at hK ⊢; go_simp
              exact hK _ _ (Below.refl _ _) rfl
            | 10, _ =>
              refine step_val0 [] (fun vΦ _ => vΦ = .int .i64 (k : Int)) rfl (by kernel_rfl) rfl (fun _ _ h => h) rfl fun K hK => ?_; clear hd; simp only [frD] at hK ⊢; go_simp
              exact hK _ _ (Below.refl _ _) rfl
            | 11, _ =>
              have qe9 : (vs 9) = .int .i64 (L.length : Int) := hd 9 (cm (by kernel_rfl)); have qe10 : (vs 10) = .int .i64 (k : Int) := hd 10 (cm (by kernel_rfl))
              refine step_val0 [(9, some 49), (10, some 50)] (fun vΦ _ => vΦ = .int .i64 (m : Int)) rfl (by kernel_rfl) rfl (fun _ _ h => h) rfl fun K hK => ?_; clear hd; simp only [frD, qe9, qe10] at hK ⊢; go_simp
              exact hK _ _ (Below.refl _ _) rfl
            | 12, _ =>
              have qe7 : (vs 7) = .string ⟨L.toArray⟩ := hd 7 (cm (by kernel_rfl)); have qe11 : (vs 11) = .int .i64 (m : Int) := hd 11 (cm (by kernel_rfl))
              refine step_val0 [(7, some 47), (11, some 51)] (fun vΦ _ => vΦ = .string ⟨Y.toArray⟩) rfl (by kernel_rfl) rfl (fun _ _ h => h) rfl fun K hK => ?_; clear hd; simp only [frD, qe7, qe11] at hK ⊢; go_simp
              exact hK _ _ (Below.refl _ _) rfl
            | i + 13, hi => exact absurd hi (by omega)
          · intro vs W21 hk3 hΦ _
            simp only [List.drop_succ_cons, List.drop_zero]
            rw [fr_frD, show (List.range 13).map _ = [(0, some 40), (1, some 41), (2, some 42), (3, some 43), (4, some 44), (5, some 45), (6, some 46), (7, some 47), (8, some 48), (9, some 49), (10, some 50), (11, some 51), (12, some 52)] by kernel_rfl]
            have pu0 : (vs 0) = .string ⟨L.toArray⟩ := hΦ 0 (by decide)
            have pu1 : (vs 1) = .string ⟨L.toArray⟩ := hΦ 1 (by decide)
            have pu2 : (vs 2) = .int .i64 (L.length : Int) := hΦ 2 (by decide)
            have pu3 : (vs 3) = .int .i64 (k : Int) := hΦ 3 (by decide)
            have pu4 : (vs 4) = .int .i64 (m : Int) := hΦ 4 (by decide)
            have pu5 : (vs 5) = .string ⟨X.toArray⟩ := hΦ 5 (by decide)
            have pu6 : (vs 6) = .string ⟨U.toArray⟩ := hΦ 6 (by decide)
            have pu7 : (vs 7) = .string ⟨L.toArray⟩ := hΦ 7 (by decide)
            have pu8 : (vs 8) = .string ⟨L.toArray⟩ := hΦ 8 (by decide)
            have pu9 : (vs 9) = .int .i64 (L.length : Int) := hΦ 9 (by decide)
            have pu10 : (vs 10) = .int .i64 (k : Int) := hΦ 10 (by decide)
            have pu11 : (vs 11) = .int .i64 (m : Int) := hΦ 11 (by decide)
            have pu12 : (vs 12) = .string ⟨Y.toArray⟩ := hΦ 12 (by decide)
            clear hΦ
            simp only [frD, pu0, pu1, pu2, pu3, pu4, pu5, pu6, pu7, pu8, pu9, pu10, pu11, pu12]
            simp only [Act.put, List.setIfInBounds_toArray, List.set_cons_zero, List.set_cons_succ]
            clear pu0 pu1 pu2 pu3 pu4 pu5 pu6 pu7 pu8 pu9 pu10 pu11 pu12
            replace S := S.drew.below hk3
            clear hk3
            have r0_0 := S.c 0 0 rfl rfl
            have r0_1 := S.c 0 1 rfl rfl
            go_wp2_with fail
            refine ((rsign_s ((S.ii 1 rfl).num (by omega)) HS1.out)).mono ?_
            rintro e W22 ⟨rfl, hk⟩
            replace S := S.below hk
            clear hk
            clear r0_0 r0_1
            rcases Bool.eq_false_or_eq_true (decide (s1 < 0)) with t2 | t2
            · skip
              go_wp2
              go_ret2
              first | exact ⟨by rw [HZ.out, HDn.out ((isgn_neg nz).1 (by have := of_decide_eq_true t2; have := HS1.out; omega))]; rfl, S.k⟩ | exact ⟨by rw [HZ.out, HDp.out (Int.not_lt.1 (fun hh => by have := (isgn_neg nz).2 hh; have := of_decide_eq_false t2; have := HS1.out; omega))]; rfl, S.k⟩
            · skip
              go_wp2
              go_ret2
              first | exact ⟨by rw [HZ.out, HDn.out ((isgn_neg nz).1 (by have := of_decide_eq_true t2; have := HS1.out; omega))]; rfl, S.k⟩ | exact ⟨by rw [HZ.out, HDp.out (Int.not_lt.1 (fun hh => by have := (isgn_neg nz).2 hh; have := of_decide_eq_false t2; have := HS1.out; omega))]; rfl, S.k⟩
        · obtain ⟨M, hM⟩ : ∃ M, L = M := ⟨_, rfl⟩
          subst hM
          have E5 : ByteArray.mk #[45] ++ ByteArray.mk L.toArray = ByteArray.mk (45 :: L).toArray := cat_str [45] L
          have hD2 : decT nz k = (if nz < 0 then [45] else []) ++ L := by rw [hD, if_neg hk0, show k = 0 by omega]; simp
          have HDn := Lib.hid (show nz < 0 → decT nz k = 45 :: L from fun h => by rw [hD2, if_pos h]; rfl)
          have HDp := Lib.hid (show 0 ≤ nz → decT nz k = L from fun h => by rw [hD2, if_neg (by omega)]; rfl)
          clear hD hD2
          obtain ⟨s1, hs1⟩ : ∃ s, (nz).sign = s := ⟨_, rfl⟩
          have t1 : decide (0 < (k : Int)) = false := by exact decide_eq_false (by omega)
          have HS1 := Lib.hid hs1
          clear hs1
          have r0_0 := S.c 0 0 rfl rfl
          have r0_1 := S.c 0 1 rfl rfl
          go_wp2_with fail
          refine ((rsign_s ((S.ii 1 rfl).num (by omega)) HS1.out)).mono ?_
          rintro e W21 ⟨rfl, hk⟩
          replace S := S.below hk
          clear hk
          clear r0_0 r0_1
          rcases Bool.eq_false_or_eq_true (decide (s1 < 0)) with t2 | t2
          · skip
            go_wp2
            go_ret2
            first | exact ⟨by rw [HZ.out, HDn.out ((isgn_neg nz).1 (by have := of_decide_eq_true t2; have := HS1.out; omega))]; rfl, S.k⟩ | exact ⟨by rw [HZ.out, HDp.out (Int.not_lt.1 (fun hh => by have := (isgn_neg nz).2 hh; have := of_decide_eq_false t2; have := HS1.out; omega))]; rfl, S.k⟩
          · skip
            go_wp2
            go_ret2
            first | exact ⟨by rw [HZ.out, HDn.out ((isgn_neg nz).1 (by have := of_decide_eq_true t2; have := HS1.out; omega))]; rfl, S.k⟩ | exact ⟨by rw [HZ.out, HDp.out (Int.not_lt.1 (fun hh => by have := (isgn_neg nz).2 hh; have := of_decide_eq_false t2; have := HS1.out; omega))]; rfl, S.k⟩
end Go.Proofs.YtmochehkkadjnaaGreatDoor
