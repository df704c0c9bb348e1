/- The walks of contour's and volume's parts of a triangle. -/
import Derived.Test.YtecibfncnaccjaaGreatPo28
import Derived.Test.YtecibfncnaccjaaGreatPo37
namespace Go.Proofs.YtecibfncnaccjaaGreat
open Go.RowKit Go.Shelf

theorem r3 : ((3 : Int) : Rat) = 3 := by decide +kernel
theorem r1 : ((1 : Int) : Rat) = 1 := by decide +kernel
theorem szR_share (x y z : Rat) : szR (x * x / ((x - y) * (x - z))) ≤ 4 * szR x + szR y + szR z + 3 := by
 have h1 := szR_div' (x * x) ((x - y) * (x - z))
 have h2 := szR_mul x x
 have h3 := szR_mul (x - y) (x - z)
 have h4 := szR_sub x y
 have h5 := szR_sub x z
 omega
set_option maxRecDepth 100000 in
set_option maxHeartbeats 1000000 in
theorem cshare_num {w : World} {V1 V2 V3 : Value} {x y z : Rat} (h1 : RatNum w V1 x) (h2 : RatNum w V2 y) (h3 : RatNum w V3 z) (hx : szR x ≤ 1000) (hy : szR y ≤ 1000) (hz : szR z ≤ 1000) (h0 : (x - y) * (x - z) ≠ 0) : Calls Tryz.prog 33 #[V1, V2, V3] w (RGives (x * x / ((x - y) * (x - z))) w) := by
 obtain ⟨b3, A3, n3, c3, d3, B3, m3, e3, rfl⟩ := h1.open_
 have z0 := h1.sz
 obtain ⟨b4, A4, n4, c4, d4, B4, m4, e4, rfl⟩ := h2.open_
 have z1 := h2.sz
 obtain ⟨b5, A5, n5, c5, d5, B5, m5, e5, rfl⟩ := h3.open_
 have z2 := h3.sz
 have H0 := Lib.hid (show rdivC ((x - y) * (x - z)) = 0 from if_neg h0)
 have y0 := szR_mul x x
 have y1 := szR_sub x y
 have y2 := szR_sub x z
 have y3 := szR_mul (x - y) (x - z)
 have y4 := szR_div' (x * x) ((x - y) * (x - z))
 have S := ((((St.start w).addR h1).addR h2).addR h3)
 clear h1 h2 h3
 go_enter Tryz.func33, Tryz.ntmps33
 go_upto_region 1 with fail
 replace S := ((((S.alloc 35 [.bool b3, .slice A3 n3 c3, .bool d3, .slice B3 m3 e3]).alloc 35 [.bool b4, .slice A4 n4 c4, .bool d4, .slice B4 m4 e4]).alloc 35 [.bool b5, .slice A5 n5 c5, .bool d5, .slice B5 m5 e5]).alloc 35 [.bool false, .slice none 0 0, .bool false, .slice none 0 0])
 simp only [World.size_alloc] at S
 obtain ⟨W1, eW, S⟩ := S.pack
 rw [eW]
 clear eW
 refine wp_region_late 13 16 (m := 15) rfl (by kernel_rfl) (fun iF vF wF => (List.getD [ve (.agg #[.bool b3, .slice A3 n3 c3, .bool d3, .slice B3 m3 e3]), ve (.agg #[.bool b3, .slice A3 n3 c3, .bool d3, .slice B3 m3 e3]), fun vF wF => RatRep wF vF (x * x), ve (.agg #[.bool b3, .slice A3 n3 c3, .bool d3, .slice B3 m3 e3]), ve (.agg #[.bool b4, .slice A4 n4 c4, .bool d4, .slice B4 m4 e4]), fun vF wF => RatRep wF vF (x - y), ve (.agg #[.bool b3, .slice A3 n3 c3, .bool d3, .slice B3 m3 e3]), ve (.agg #[.bool b5, .slice A5 n5 c5, .bool d5, .slice B5 m5 e5]), fun vF wF => RatRep wF vF (x - z), fun vF wF => RatRep wF vF ((x - y) * (x - z)), fun vF wF => TupQ (0) ((x * x) / ((x - y) * (x - z))) vF wF, fun vF wF => TupQ (0) ((x * x) / ((x - y) * (x - z))) vF wF, fun vF wF => FstQ (0) ((x * x) / ((x - y) * (x - z))) vF wF, ve (.int .i64 (0)), fun vF wF => ∃ b, vF = .pointer (some ⟨b, 0, none⟩) ∧ W1.heap.size ≤ b ∧ Own wF b 35 [.bool false, .slice none 0 0, .bool false, .slice none 0 0]] iF (fun _ _ => True)) vF wF) [14] (by simp) ?_ ?_ ?_ ?_
 ·intro i v w w' _ h hk
  refine stabL_get ?_ i v w w' h hk
  exact stab_cons st_e (stab_cons st_e (stab_cons st_q (stab_cons st_e (stab_cons st_e (stab_cons st_q (stab_cons st_e (stab_cons st_e (stab_cons st_q (stab_cons st_q (stab_cons st_t (stab_cons st_t (stab_cons st_f (stab_cons st_e (stab_cons st_a stab_nil))))))))))))))
 ·intro i hi vs w3 hk3 hd
  have S3 := S.drew.below hk3
  obtain ⟨a0, a1, a2, a3⟩ := S3.cc4 3 rfl
  obtain ⟨a4, a5, a6, a7⟩ := S3.cc4 2 rfl
  obtain ⟨a8, a9, a10, a11⟩ := S3.cc4 1 rfl
  match i, hi with
  | 0, _ =>
   refine sv0 [] (ve (.agg #[.bool b3, .slice A3 n3 c3, .bool d3, .slice B3 m3 e3])) rfl fun K hK => ?_; clear hd; simp only [frD] at hK ⊢; go_simp
   exact hK _ _ bl rfl
  | 1, _ =>
   refine sv0 [] (ve (.agg #[.bool b3, .slice A3 n3 c3, .bool d3, .slice B3 m3 e3])) rfl fun K hK => ?_; clear hd; simp only [frD] at hK ⊢; go_simp
   exact hK _ _ bl rfl
  | 2, _ =>
   have qe0 : (vs 0) = .agg #[.bool b3, .slice A3 n3 c3, .bool d3, .slice B3 m3 e3] := hdk hd 0; have qe1 : (vs 1) = .agg #[.bool b3, .slice A3 n3 c3, .bool d3, .slice B3 m3 e3] := hdk hd 1
   refine sc (A := #[(vs 0), (vs 1)]) (B := #[.agg #[.bool b3, .slice A3 n3 c3, .bool d3, .slice B3 m3 e3], .agg #[.bool b3, .slice A3 n3 c3, .bool d3, .slice B3 m3 e3]]) [(0, some 10), (1, some 11)] (fun vF wF => RatRep wF vF (x * x)) rfl (wanted_none rfl) (by rw [qe0, qe1]) Tryz.func32 ?_
   refine ((fmul_num (S3.ri 2 rfl) (S3.ri 2 rfl))).mono ?_; rintro e w4 ⟨U, rfl, hr, hk4⟩; exact ⟨_, rfl, hk4, hr⟩
  | 3, _ =>
   refine sv0 [] (ve (.agg #[.bool b3, .slice A3 n3 c3, .bool d3, .slice B3 m3 e3])) rfl fun K hK => ?_; clear hd; simp only [frD] at hK ⊢; go_simp
   exact hK _ _ bl rfl
  | 4, _ =>
   refine sv0 [] (ve (.agg #[.bool b4, .slice A4 n4 c4, .bool d4, .slice B4 m4 e4])) rfl fun K hK => ?_; clear hd; simp only [frD] at hK ⊢; go_simp
   exact hK _ _ bl rfl
  | 5, _ =>
   have h2 : RatRep w3 (vs 2) (x * x) := hdk hd 2; have qe3 : (vs 3) = .agg #[.bool b3, .slice A3 n3 c3, .bool d3, .slice B3 m3 e3] := hdk hd 3; have qe4 : (vs 4) = .agg #[.bool b4, .slice A4 n4 c4, .bool d4, .slice B4 m4 e4] := hdk hd 4
   refine sc (A := #[(vs 3), (vs 4)]) (B := #[.agg #[.bool b3, .slice A3 n3 c3, .bool d3, .slice B3 m3 e3], .agg #[.bool b4, .slice A4 n4 c4, .bool d4, .slice B4 m4 e4]]) [(2, some 12), (3, some 13), (4, some 14)] (fun vF wF => RatRep wF vF (x - y)) rfl (wanted_none rfl) (by rw [qe3, qe4]) Tryz.func35 ?_
   refine ((fsub_num (S3.ri 2 rfl) (S3.ri 1 rfl))).mono ?_; rintro e w4 ⟨U, rfl, hr, hk4⟩; exact ⟨_, rfl, hk4, hr⟩
  | 6, _ =>
   refine sv0 [] (ve (.agg #[.bool b3, .slice A3 n3 c3, .bool d3, .slice B3 m3 e3])) rfl fun K hK => ?_; clear hd; simp only [frD] at hK ⊢; go_simp
   exact hK _ _ bl rfl
  | 7, _ =>
   refine sv0 [] (ve (.agg #[.bool b5, .slice A5 n5 c5, .bool d5, .slice B5 m5 e5])) rfl fun K hK => ?_; clear hd; simp only [frD] at hK ⊢; go_simp
   exact hK _ _ bl rfl
  | 8, _ =>
   have h5 : RatRep w3 (vs 5) (x - y) := hdk hd 5; have qe6 : (vs 6) = .agg #[.bool b3, .slice A3 n3 c3, .bool d3, .slice B3 m3 e3] := hdk hd 6; have qe7 : (vs 7) = .agg #[.bool b5, .slice A5 n5 c5, .bool d5, .slice B5 m5 e5] := hdk hd 7
   refine sc (A := #[(vs 6), (vs 7)]) (B := #[.agg #[.bool b3, .slice A3 n3 c3, .bool d3, .slice B3 m3 e3], .agg #[.bool b5, .slice A5 n5 c5, .bool d5, .slice B5 m5 e5]]) [(5, some 15), (6, some 16), (7, some 17)] (fun vF wF => RatRep wF vF (x - z)) rfl (wanted_none rfl) (by rw [qe6, qe7]) Tryz.func35 ?_
   refine ((fsub_num (S3.ri 2 rfl) (S3.ri 0 rfl))).mono ?_; rintro e w4 ⟨U, rfl, hr, hk4⟩; exact ⟨_, rfl, hk4, hr⟩
  | 9, _ =>
   have h5 : RatRep w3 (vs 5) (x - y) := hdk hd 5; have h8 : RatRep w3 (vs 8) (x - z) := hdk hd 8
   refine sc (A := #[(vs 5), (vs 8)]) (B := #[(vs 5), (vs 8)]) [(5, some 15), (8, some 18)] (fun vF wF => RatRep wF vF ((x - y) * (x - z))) rfl (wanted_none rfl) rfl Tryz.func32 ?_
   refine ((fmul_num (h5.num (by omega)) (h8.num (by omega)))).mono ?_; rintro e w4 ⟨U, rfl, hr, hk4⟩; exact ⟨_, rfl, hk4, hr⟩
  | 10, _ =>
   have h2 : RatRep w3 (vs 2) (x * x) := hdk hd 2; have h9 : RatRep w3 (vs 9) ((x - y) * (x - z)) := hdk hd 9
   refine sc (A := #[(vs 2), (vs 9)]) (B := #[(vs 2), (vs 9)]) [(2, some 12), (9, some 19)] (fun vF wF => TupQ (0) ((x * x) / ((x - y) * (x - z))) vF wF) rfl (wanted_none rfl) rfl Tryz.func65 ?_
   refine ((rcode_eq (c' := 0) (fdivide_num (h2.num (by omega)) (h9.num (by omega))) H0.out rfl)).mono ?_; rintro e w4 ⟨U, rfl, hr, hk4⟩; exact ⟨_, rfl, hk4, ⟨U, rfl, hr⟩⟩
  | 11, _ =>
   have h10 : TupQ (0) ((x * x) / ((x - y) * (x - z))) (vs 10) w3 := hdk hd 10; obtain ⟨Q9, q9, hQ9⟩ := h10
   refine sv0 [(10, some 20)] (fun vF wF => TupQ (0) ((x * x) / ((x - y) * (x - z))) vF wF) rfl fun K hK => ?_; clear hd; simp only [frD, q9] at hK ⊢; go_simp
   exact hK _ _ bl ⟨Q9, rfl, hQ9⟩
  | 12, _ =>
   have h11 : TupQ (0) ((x * x) / ((x - y) * (x - z))) (vs 11) w3 := hdk hd 11; obtain ⟨Q9, q9, hQ9⟩ := h11
   refine sv0 [(11, some 9)] (fun vF wF => FstQ (0) ((x * x) / ((x - y) * (x - z))) vF wF) rfl fun K hK => ?_; clear hd; simp only [frD, q9] at hK ⊢; go_simp
   exact hK _ _ bl hQ9
  | 13, _ =>
   have h11 : TupQ (0) ((x * x) / ((x - y) * (x - z))) (vs 11) w3 := hdk hd 11; obtain ⟨Q9, q9, hQ9⟩ := h11
   refine sv0 [(11, some 9)] (ve (.int .i64 (0))) rfl fun K hK => ?_; clear hd; simp only [frD, q9] at hK ⊢; go_simp
   exact hK _ _ bl rfl
  | 14, _ =>
   refine step_yes [] rfl (by kernel_rfl) fun K hK => ?_; simp only [frD] at hK ⊢; refine ⟨by rfl, ?_⟩; go_simp
   exact hK _ _ ⟨bl.alloc (Nat.le_refl _) _, ⟨_, rfl, hk3.size, Own.new w3 _ _⟩, fun _ => ⟨rfl, by simp⟩⟩
  | i + 15, hi => exact absurd hi (by omega)
 ·intro vs w3 hk3 hd
  have h11 : TupQ (0) ((x * x) / ((x - y) * (x - z))) (vs 11) w3 := hdk hd 11; obtain ⟨Q9, q9, hQ9⟩ := h11
  refine pure_at (v := .int .i64 0) [(11, some 9)] rfl (by kernel_rfl) (by exact rfl) fun w4 K hK => ?_; simp only [frD, q9] at hK ⊢; refine ⟨by rfl, ?_⟩; go_simp; exact hK
 ·intro vs W2 hk3 hΦ _
  simp only [List.drop_succ_cons, List.drop_zero]
  rw [fr_frD, show (List.range 15).map _ = [(0, some 10), (1, some 11), (2, some 12), (3, some 13), (4, some 14), (5, some 15), (6, some 16), (7, some 17), (8, some 18), (9, some 19), (10, some 20), (11, some 9), (12, some 21), (13, some 22), (14, some 7)] by kernel_rfl]
  have pa0 : (vs 0) = .agg #[.bool b3, .slice A3 n3 c3, .bool d3, .slice B3 m3 e3] := hΦ 0 (by decide)
  have pa1 : (vs 1) = .agg #[.bool b3, .slice A3 n3 c3, .bool d3, .slice B3 m3 e3] := hΦ 1 (by decide)
  have pa2 : RatRep W2 (vs 2) (x * x) := hΦ 2 (by decide)
  have pa3 : (vs 3) = .agg #[.bool b3, .slice A3 n3 c3, .bool d3, .slice B3 m3 e3] := hΦ 3 (by decide)
  have pa4 : (vs 4) = .agg #[.bool b4, .slice A4 n4 c4, .bool d4, .slice B4 m4 e4] := hΦ 4 (by decide)
  have pa5 : RatRep W2 (vs 5) (x - y) := hΦ 5 (by decide)
  have pa6 : (vs 6) = .agg #[.bool b3, .slice A3 n3 c3, .bool d3, .slice B3 m3 e3] := hΦ 6 (by decide)
  have pa7 : (vs 7) = .agg #[.bool b5, .slice A5 n5 c5, .bool d5, .slice B5 m5 e5] := hΦ 7 (by decide)
  have pa8 : RatRep W2 (vs 8) (x - z) := hΦ 8 (by decide)
  have pa9 : RatRep W2 (vs 9) ((x - y) * (x - z)) := hΦ 9 (by decide)
  have pa10 : TupQ (0) ((x * x) / ((x - y) * (x - z))) (vs 10) W2 := hΦ 10 (by decide)
  have pa11 : TupQ (0) ((x * x) / ((x - y) * (x - z))) (vs 11) W2 := hΦ 11 (by decide)
  have pa12 : FstQ (0) ((x * x) / ((x - y) * (x - z))) (vs 12) W2 := hΦ 12 (by decide)
  have pa13 : (vs 13) = .int .i64 (0) := hΦ 13 (by decide)
  have pa14 : ∃ b, (vs 14) = .pointer (some ⟨b, 0, none⟩) ∧ W1.heap.size ≤ b ∧ Own W2 b 35 [.bool false, .slice none 0 0, .bool false, .slice none 0 0] := hΦ 14 (by decide)
  clear hΦ
  obtain ⟨bpa14, qA14, hlA14, hOA14⟩ := pa14
  simp only [frD, pa0, pa1, pa3, pa4, pa6, pa7, pa13, qA14]
  simp only [Act.put, List.setIfInBounds_toArray, List.set_cons_zero, List.set_cons_succ]
  clear pa0 pa1 pa3 pa4 pa6 pa7 pa13
  generalize vs 2 = Upa2 at pa2 ⊢
  generalize vs 5 = Upa5 at pa5 ⊢
  generalize vs 8 = Upa8 at pa8 ⊢
  generalize vs 9 = Upa9 at pa9 ⊢
  generalize vs 10 = Upa10 at pa10 ⊢
  generalize vs 11 = Upa11 at pa11 ⊢
  generalize vs 12 = Upa12 at pa12 ⊢
  replace S := S.drew.box (S.drew.below hk3) hOA14 hlA14
  clear qA14 hlA14 hOA14
  clear pa2
  clear pa5
  clear pa8
  clear pa9
  clear pa10
  clear pa11
  have hp := FstQ.rep pa12
  obtain ⟨b6, A6, n6, c6, d6, B6, m6, e6, rfl⟩ := hp.open_
  replace S := S.addQ hp
  clear hp pa12
  clear hk3
  have r4_0 := S.c 0 0 rfl rfl
  have f4_0 := S.f 0 0 rfl
  have r4_1 := S.c 0 1 rfl rfl
  have f4_1 := S.f 0 1 rfl
  have r4_2 := S.c 0 2 rfl rfl
  have f4_2 := S.f 0 2 rfl
  have r4_3 := S.c 0 3 rfl rfl
  have f4_3 := S.f 0 3 rfl
  go_upto_region 2 with fail
  replace S := (S.put4 0 rfl rfl rfl (x' := .bool b6) (y' := .slice A6 n6 c6) (z' := .bool d6) (u' := .slice B6 m6 e6))
  obtain ⟨W3, eW, S⟩ := S.pack
  rw [eW]
  clear eW
  clear r4_0 f4_0 r4_1 f4_1 r4_2 f4_2 r4_3 f4_3
  have r3_0 := S.c 1 0 rfl rfl
  have f3_0 := S.f 1 0 rfl
  have r3_1 := S.c 1 1 rfl rfl
  have f3_1 := S.f 1 1 rfl
  have r3_2 := S.c 1 2 rfl rfl
  have f3_2 := S.f 1 2 rfl
  have r3_3 := S.c 1 3 rfl rfl
  have f3_3 := S.f 1 3 rfl
  obtain ⟨r4_0, r4_1, r4_2, r4_3⟩ := S.cc4 0 rfl
  go_wp2
  replace S := (S.put4 1 rfl rfl rfl (x' := .bool b6) (y' := .slice A6 n6 c6) (z' := .bool d6) (u' := .slice B6 m6 e6))
  refine bodyPost_ret (v := .agg #[.bool b6, .slice A6 n6 c6, .bool d6, .slice B6 m6 e6]) (by simp [results, Tryz.results33, go_sem, S.c 1 0 rfl rfl, S.c 1 1 rfl rfl, S.c 1 2 rfl rfl, S.c 1 3 rfl rfl]) rfl ?_
  exact ⟨_, rfl, S.qi 0 rfl, S.k⟩
set_option maxRecDepth 100000 in
set_option maxHeartbeats 1000000 in
theorem cabove1_num {w : World} {V1 V2 V3 V4 : Value} {x y z t : Rat} (h1 : RatNum w V1 x) (h2 : RatNum w V2 y) (h3 : RatNum w V3 z) (h4 : RatNum w V4 t) (_ : szR t ≤ 50000) : Calls Tryz.prog 43 #[V1, V2, V3, V4] w (RGives (1 - t) w) := by
 obtain ⟨b3, A3, n3, c3, d3, B3, m3, e3, rfl⟩ := h1.open_
 have z0 := h1.sz
 obtain ⟨b4, A4, n4, c4, d4, B4, m4, e4, rfl⟩ := h2.open_
 have z1 := h2.sz
 obtain ⟨b5, A5, n5, c5, d5, B5, m5, e5, rfl⟩ := h3.open_
 have z2 := h3.sz
 obtain ⟨b6, A6, n6, c6, d6, B6, m6, e6, rfl⟩ := h4.open_
 have z3 := h4.sz
 have z1 : szR ((1 : Int) : Rat) ≤ 1 := by decide +kernel
 have y0 := szR_int 1
 have y1 := szR_sub (((1 : Int) : Rat)) t
 have S := (((((St.start w).addR h1).addR h2).addR h3).addR h4)
 clear h1 h2 h3 h4
 go_enter Tryz.func43, Tryz.ntmps43
 go_upto_region 1 with fail
 replace S := (((((S.alloc 35 [.bool b3, .slice A3 n3 c3, .bool d3, .slice B3 m3 e3]).alloc 35 [.bool b4, .slice A4 n4 c4, .bool d4, .slice B4 m4 e4]).alloc 35 [.bool b5, .slice A5 n5 c5, .bool d5, .slice B5 m5 e5]).alloc 35 [.bool b6, .slice A6 n6 c6, .bool d6, .slice B6 m6 e6]).alloc 35 [.bool false, .slice none 0 0, .bool false, .slice none 0 0])
 simp only [World.size_alloc] at S
 obtain ⟨W1, eW, S⟩ := S.pack
 rw [eW]
 clear eW
 refine wp_region_steps (m := 3) rfl (by kernel_rfl) (fun iF vF wF => (List.getD [fun vF wF => RatRep wF vF (((1 : Int) : Rat)), ve (.agg #[.bool b6, .slice A6 n6 c6, .bool d6, .slice B6 m6 e6]), fun vF wF => RatRep wF vF ((((1 : Int) : Rat)) - t)] iF (fun _ _ => True)) vF wF) [] ?_ ?_ ?_
 ·intro i v w w' _ h hk
  refine stabL_get ?_ i v w w' h hk
  exact stab_cons st_q (stab_cons st_e (stab_cons st_q stab_nil))
 ·intro i hi vs w3 hk3 hd
  have S3 := S.drew.below hk3
  obtain ⟨a0, a1, a2, a3⟩ := S3.cc4 1 rfl
  match i, hi with
  | 0, _ =>
   refine sc (A := #[.int .i64 1]) (B := #[.int .i64 1]) [] (fun vF wF => RatRep wF vF (((1 : Int) : Rat))) rfl (wanted_none rfl) rfl Tryz.func44 ?_
   refine ((whole_num 1 (by omega) (by omega))).mono ?_; rintro e w4 ⟨U, rfl, hr, hk4⟩; exact ⟨_, rfl, hk4, hr⟩
  | 1, _ =>
   refine sv0 [] (ve (.agg #[.bool b6, .slice A6 n6 c6, .bool d6, .slice B6 m6 e6])) rfl fun K hK => ?_; clear hd; simp only [frD] at hK ⊢; go_simp
   exact hK _ _ bl rfl
  | 2, _ =>
   have h0 : RatRep w3 (vs 0) (((1 : Int) : Rat)) := hdk hd 0; have qe1 : (vs 1) = .agg #[.bool b6, .slice A6 n6 c6, .bool d6, .slice B6 m6 e6] := hdk hd 1
   refine sc (A := #[(vs 0), (vs 1)]) (B := #[(vs 0), .agg #[.bool b6, .slice A6 n6 c6, .bool d6, .slice B6 m6 e6]]) [(0, some 9), (1, some 10)] (fun vF wF => RatRep wF vF ((((1 : Int) : Rat)) - t)) rfl (wanted_none rfl) (by rw [qe1]) Tryz.func35 ?_
   refine ((fsub_num (h0.num (by omega)) (S3.ri 0 rfl))).mono ?_; rintro e w4 ⟨U, rfl, hr, hk4⟩; exact ⟨_, rfl, hk4, hr⟩
  | i + 3, hi => exact absurd hi (by omega)
 ·intro vs W2 hk3 hΦ _
  simp only [List.drop_succ_cons, List.drop_zero]
  rw [fr_frD, show (List.range 3).map _ = [(0, some 9), (1, some 10), (2, some 11)] by kernel_rfl]
  have pa0 : RatRep W2 (vs 0) (((1 : Int) : Rat)) := hΦ 0 (by decide)
  have pa1 : (vs 1) = .agg #[.bool b6, .slice A6 n6 c6, .bool d6, .slice B6 m6 e6] := hΦ 1 (by decide)
  have pa2 : RatRep W2 (vs 2) ((((1 : Int) : Rat)) - t) := hΦ 2 (by decide)
  clear hΦ
  simp only [frD, pa1]
  simp only [Act.put, List.setIfInBounds_toArray, List.set_cons_zero, List.set_cons_succ]
  clear pa1
  generalize vs 0 = Upa0 at pa0 ⊢
  generalize vs 2 = Upa2 at pa2 ⊢
  replace S := S.drew.below hk3
  clear pa0
  obtain ⟨b7, A7, n7, c7, d7, B7, m7, e7, rfl⟩ := pa2.open_
  replace S := S.addQ pa2
  clear pa2
  clear hk3
  have r4_0 := S.c 0 0 rfl rfl
  have f4_0 := S.f 0 0 rfl
  have r4_1 := S.c 0 1 rfl rfl
  have f4_1 := S.f 0 1 rfl
  have r4_2 := S.c 0 2 rfl rfl
  have f4_2 := S.f 0 2 rfl
  have r4_3 := S.c 0 3 rfl rfl
  have f4_3 := S.f 0 3 rfl
  go_wp2
  replace S := (S.put4 0 rfl rfl rfl (x' := .bool b7) (y' := .slice A7 n7 c7) (z' := .bool d7) (u' := .slice B7 m7 e7))
  refine bodyPost_ret (v := .agg #[.bool b7, .slice A7 n7 c7, .bool d7, .slice B7 m7 e7]) (by simp [results, Tryz.results43, go_sem, S.c 0 0 rfl rfl, S.c 0 1 rfl rfl, S.c 0 2 rfl rfl, S.c 0 3 rfl rfl]) rfl ?_
  exact ⟨_, rfl, S.qi 0 rfl, S.k⟩
set_option maxRecDepth 100000 in
set_option maxHeartbeats 1000000 in
theorem vpeak_num {w : World} {V1 V2 V3 : Value} {x y z : Rat} (h1 : RatNum w V1 x) (h2 : RatNum w V2 y) (h3 : RatNum w V3 z) (hx : szR x ≤ 1000) (hy : szR y ≤ 1000) (hz : szR z ≤ 1000) (h0 : 3 * ((x - y) * (x - z)) ≠ 0) : Calls Tryz.prog 109 #[V1, V2, V3] w (RGives (x * (x * x) / (3 * ((x - y) * (x - z)))) w) := by
 obtain ⟨b3, A3, n3, c3, d3, B3, m3, e3, rfl⟩ := h1.open_
 have z0 := h1.sz
 obtain ⟨b4, A4, n4, c4, d4, B4, m4, e4, rfl⟩ := h2.open_
 have z1 := h2.sz
 obtain ⟨b5, A5, n5, c5, d5, B5, m5, e5, rfl⟩ := h3.open_
 have z2 := h3.sz
 have z3 : szR ((3 : Int) : Rat) ≤ 1 := by decide +kernel
 have H0 := Lib.hid (show rdivC (((3 : Int) : Rat) * ((x - y) * (x - z))) = 0 from if_neg (by rw [r3]; exact h0))
 have y0 := szR_int 3
 have y1 := szR_sub x y
 have y2 := szR_sub x z
 have y3 := szR_mul (x - y) (x - z)
 have y4 := szR_mul (((3 : Int) : Rat)) ((x - y) * (x - z))
 have y5 := szR_mul x x
 have y6 := szR_mul x (x * x)
 have y7 := szR_div' (x * (x * x)) ((((3 : Int) : Rat)) * ((x - y) * (x - z)))
 have S := ((((St.start w).addR h1).addR h2).addR h3)
 clear h1 h2 h3
 go_enter Tryz.func109, Tryz.ntmps109
 go_upto_region 1 with fail
 replace S := ((((S.alloc 35 [.bool b3, .slice A3 n3 c3, .bool d3, .slice B3 m3 e3]).alloc 35 [.bool b4, .slice A4 n4 c4, .bool d4, .slice B4 m4 e4]).alloc 35 [.bool b5, .slice A5 n5 c5, .bool d5, .slice B5 m5 e5]).alloc 35 [.bool false, .slice none 0 0, .bool false, .slice none 0 0])
 simp only [World.size_alloc] at S
 obtain ⟨W1, eW, S⟩ := S.pack
 rw [eW]
 clear eW
 refine wp_region_steps (m := 10) rfl (by kernel_rfl) (fun iF vF wF => (List.getD [fun vF wF => RatRep wF vF (((3 : Int) : Rat)), ve (.agg #[.bool b3, .slice A3 n3 c3, .bool d3, .slice B3 m3 e3]), ve (.agg #[.bool b4, .slice A4 n4 c4, .bool d4, .slice B4 m4 e4]), fun vF wF => RatRep wF vF (x - y), ve (.agg #[.bool b3, .slice A3 n3 c3, .bool d3, .slice B3 m3 e3]), ve (.agg #[.bool b5, .slice A5 n5 c5, .bool d5, .slice B5 m5 e5]), fun vF wF => RatRep wF vF (x - z), fun vF wF => RatRep wF vF ((x - y) * (x - z)), fun vF wF => RatRep wF vF ((((3 : Int) : Rat)) * ((x - y) * (x - z))), fun vF wF => ∃ b, vF = .pointer (some ⟨b, 0, none⟩) ∧ W1.heap.size ≤ b ∧ Own wF b 35 [.bool false, .slice none 0 0, .bool false, .slice none 0 0]] iF (fun _ _ => True)) vF wF) [9] ?_ ?_ ?_
 ·intro i v w w' _ h hk
  refine stabL_get ?_ i v w w' h hk
  exact stab_cons st_q (stab_cons st_e (stab_cons st_e (stab_cons st_q (stab_cons st_e (stab_cons st_e (stab_cons st_q (stab_cons st_q (stab_cons st_q (stab_cons st_a stab_nil)))))))))
 ·intro i hi vs w3 hk3 hd
  have S3 := S.drew.below hk3
  obtain ⟨a0, a1, a2, a3⟩ := S3.cc4 3 rfl
  obtain ⟨a4, a5, a6, a7⟩ := S3.cc4 2 rfl
  obtain ⟨a8, a9, a10, a11⟩ := S3.cc4 1 rfl
  match i, hi with
  | 0, _ =>
   refine sc (A := #[.int .i64 3]) (B := #[.int .i64 3]) [] (fun vF wF => RatRep wF vF (((3 : Int) : Rat))) rfl (wanted_none rfl) rfl Tryz.func44 ?_
   refine ((whole_num 3 (by omega) (by omega))).mono ?_; rintro e w4 ⟨U, rfl, hr, hk4⟩; exact ⟨_, rfl, hk4, hr⟩
  | 1, _ =>
   refine sv0 [] (ve (.agg #[.bool b3, .slice A3 n3 c3, .bool d3, .slice B3 m3 e3])) rfl fun K hK => ?_; clear hd; simp only [frD] at hK ⊢; go_simp
   exact hK _ _ bl rfl
  | 2, _ =>
   refine sv0 [] (ve (.agg #[.bool b4, .slice A4 n4 c4, .bool d4, .slice B4 m4 e4])) rfl fun K hK => ?_; clear hd; simp only [frD] at hK ⊢; go_simp
   exact hK _ _ bl rfl
  | 3, _ =>
   have h0 : RatRep w3 (vs 0) (((3 : Int) : Rat)) := hdk hd 0; have qe1 : (vs 1) = .agg #[.bool b3, .slice A3 n3 c3, .bool d3, .slice B3 m3 e3] := hdk hd 1; have qe2 : (vs 2) = .agg #[.bool b4, .slice A4 n4 c4, .bool d4, .slice B4 m4 e4] := hdk hd 2
   refine sc (A := #[(vs 1), (vs 2)]) (B := #[.agg #[.bool b3, .slice A3 n3 c3, .bool d3, .slice B3 m3 e3], .agg #[.bool b4, .slice A4 n4 c4, .bool d4, .slice B4 m4 e4]]) [(0, some 10), (1, some 11), (2, some 12)] (fun vF wF => RatRep wF vF (x - y)) rfl (wanted_none rfl) (by rw [qe1, qe2]) Tryz.func35 ?_
   refine ((fsub_num (S3.ri 2 rfl) (S3.ri 1 rfl))).mono ?_; rintro e w4 ⟨U, rfl, hr, hk4⟩; exact ⟨_, rfl, hk4, hr⟩
  | 4, _ =>
   refine sv0 [] (ve (.agg #[.bool b3, .slice A3 n3 c3, .bool d3, .slice B3 m3 e3])) rfl fun K hK => ?_; clear hd; simp only [frD] at hK ⊢; go_simp
   exact hK _ _ bl rfl
  | 5, _ =>
   refine sv0 [] (ve (.agg #[.bool b5, .slice A5 n5 c5, .bool d5, .slice B5 m5 e5])) rfl fun K hK => ?_; clear hd; simp only [frD] at hK ⊢; go_simp
   exact hK _ _ bl rfl
  | 6, _ =>
   have h3 : RatRep w3 (vs 3) (x - y) := hdk hd 3; have qe4 : (vs 4) = .agg #[.bool b3, .slice A3 n3 c3, .bool d3, .slice B3 m3 e3] := hdk hd 4; have qe5 : (vs 5) = .agg #[.bool b5, .slice A5 n5 c5, .bool d5, .slice B5 m5 e5] := hdk hd 5
   refine sc (A := #[(vs 4), (vs 5)]) (B := #[.agg #[.bool b3, .slice A3 n3 c3, .bool d3, .slice B3 m3 e3], .agg #[.bool b5, .slice A5 n5 c5, .bool d5, .slice B5 m5 e5]]) [(3, some 13), (4, some 14), (5, some 15)] (fun vF wF => RatRep wF vF (x - z)) rfl (wanted_none rfl) (by rw [qe4, qe5]) Tryz.func35 ?_
   refine ((fsub_num (S3.ri 2 rfl) (S3.ri 0 rfl))).mono ?_; rintro e w4 ⟨U, rfl, hr, hk4⟩; exact ⟨_, rfl, hk4, hr⟩
  | 7, _ =>
   have h3 : RatRep w3 (vs 3) (x - y) := hdk hd 3; have h6 : RatRep w3 (vs 6) (x - z) := hdk hd 6
   refine sc (A := #[(vs 3), (vs 6)]) (B := #[(vs 3), (vs 6)]) [(3, some 13), (6, some 16)] (fun vF wF => RatRep wF vF ((x - y) * (x - z))) rfl (wanted_none rfl) rfl Tryz.func32 ?_
   refine ((fmul_num (h3.num (by omega)) (h6.num (by omega)))).mono ?_; rintro e w4 ⟨U, rfl, hr, hk4⟩; exact ⟨_, rfl, hk4, hr⟩
  | 8, _ =>
   have h0 : RatRep w3 (vs 0) (((3 : Int) : Rat)) := hdk hd 0; have h7 : RatRep w3 (vs 7) ((x - y) * (x - z)) := hdk hd 7
   refine sc (A := #[(vs 0), (vs 7)]) (B := #[(vs 0), (vs 7)]) [(0, some 10), (7, some 17)] (fun vF wF => RatRep wF vF ((((3 : Int) : Rat)) * ((x - y) * (x - z)))) rfl (wanted_none rfl) rfl Tryz.func32 ?_
   refine ((fmul_num (h0.num (by omega)) (h7.num (by omega)))).mono ?_; rintro e w4 ⟨U, rfl, hr, hk4⟩; exact ⟨_, rfl, hk4, hr⟩
  | 9, _ =>
   refine step_yes [] rfl (by kernel_rfl) fun K hK => ?_; simp only [frD] at hK ⊢; refine ⟨by rfl, ?_⟩; go_simp
   exact hK _ _ ⟨bl.alloc (Nat.le_refl _) _, ⟨_, rfl, hk3.size, Own.new w3 _ _⟩, fun _ => ⟨rfl, by simp⟩⟩
  | i + 10, hi => exact absurd hi (by omega)
 ·intro vs W2 hk3 hΦ _
  simp only [List.drop_succ_cons, List.drop_zero]
  rw [fr_frD, show (List.range 10).map _ = [(0, some 10), (1, some 11), (2, some 12), (3, some 13), (4, some 14), (5, some 15), (6, some 16), (7, some 17), (8, some 18), (9, some 7)] by kernel_rfl]
  have pa0 : RatRep W2 (vs 0) (((3 : Int) : Rat)) := hΦ 0 (by decide)
  have pa1 : (vs 1) = .agg #[.bool b3, .slice A3 n3 c3, .bool d3, .slice B3 m3 e3] := hΦ 1 (by decide)
  have pa2 : (vs 2) = .agg #[.bool b4, .slice A4 n4 c4, .bool d4, .slice B4 m4 e4] := hΦ 2 (by decide)
  have pa3 : RatRep W2 (vs 3) (x - y) := hΦ 3 (by decide)
  have pa4 : (vs 4) = .agg #[.bool b3, .slice A3 n3 c3, .bool d3, .slice B3 m3 e3] := hΦ 4 (by decide)
  have pa5 : (vs 5) = .agg #[.bool b5, .slice A5 n5 c5, .bool d5, .slice B5 m5 e5] := hΦ 5 (by decide)
  have pa6 : RatRep W2 (vs 6) (x - z) := hΦ 6 (by decide)
  have pa7 : RatRep W2 (vs 7) ((x - y) * (x - z)) := hΦ 7 (by decide)
  have pa8 : RatRep W2 (vs 8) ((((3 : Int) : Rat)) * ((x - y) * (x - z))) := hΦ 8 (by decide)
  have pa9 : ∃ b, (vs 9) = .pointer (some ⟨b, 0, none⟩) ∧ W1.heap.size ≤ b ∧ Own W2 b 35 [.bool false, .slice none 0 0, .bool false, .slice none 0 0] := hΦ 9 (by decide)
  clear hΦ
  obtain ⟨bpa9, qA9, hlA9, hOA9⟩ := pa9
  simp only [frD, pa1, pa2, pa4, pa5, qA9]
  simp only [Act.put, List.setIfInBounds_toArray, List.set_cons_zero, List.set_cons_succ]
  clear pa1 pa2 pa4 pa5
  generalize vs 0 = Upa0 at pa0 ⊢
  generalize vs 3 = Upa3 at pa3 ⊢
  generalize vs 6 = Upa6 at pa6 ⊢
  generalize vs 7 = Upa7 at pa7 ⊢
  generalize vs 8 = Upa8 at pa8 ⊢
  replace S := S.drew.box (S.drew.below hk3) hOA9 hlA9
  clear qA9 hlA9 hOA9
  clear pa0
  clear pa3
  clear pa6
  clear pa7
  obtain ⟨b6, A6, n6, c6, d6, B6, m6, e6, rfl⟩ := pa8.open_
  replace S := S.addQ pa8
  clear pa8
  clear hk3
  have r4_0 := S.c 0 0 rfl rfl
  have f4_0 := S.f 0 0 rfl
  have r4_1 := S.c 0 1 rfl rfl
  have f4_1 := S.f 0 1 rfl
  have r4_2 := S.c 0 2 rfl rfl
  have f4_2 := S.f 0 2 rfl
  have r4_3 := S.c 0 3 rfl rfl
  have f4_3 := S.f 0 3 rfl
  go_upto_region 2 with fail
  replace S := (S.put4 0 rfl rfl rfl (x' := .bool b6) (y' := .slice A6 n6 c6) (z' := .bool d6) (u' := .slice B6 m6 e6))
  obtain ⟨W3, eW, S⟩ := S.pack
  rw [eW]
  clear eW
  clear r4_0 f4_0 r4_1 f4_1 r4_2 f4_2 r4_3 f4_3
  refine wp_region_late 9 12 (m := 11) rfl (by kernel_rfl) (fun iF vF wF => (List.getD [ve (.agg #[.bool b3, .slice A3 n3 c3, .bool d3, .slice B3 m3 e3]), ve (.agg #[.bool b3, .slice A3 n3 c3, .bool d3, .slice B3 m3 e3]), ve (.agg #[.bool b3, .slice A3 n3 c3, .bool d3, .slice B3 m3 e3]), fun vF wF => RatRep wF vF (x * x), fun vF wF => RatRep wF vF (x * (x * x)), ve (.agg #[.bool b6, .slice A6 n6 c6, .bool d6, .slice B6 m6 e6]), fun vF wF => TupQ (0) ((x * (x * x)) / ((((3 : Int) : Rat)) * ((x - y) * (x - z)))) vF wF, fun vF wF => TupQ (0) ((x * (x * x)) / ((((3 : Int) : Rat)) * ((x - y) * (x - z)))) vF wF, fun vF wF => FstQ (0) ((x * (x * x)) / ((((3 : Int) : Rat)) * ((x - y) * (x - z)))) vF wF, ve (.int .i64 (0)), fun vF wF => ∃ b, vF = .pointer (some ⟨b, 0, none⟩) ∧ W3.heap.size ≤ b ∧ Own wF b 35 [.bool false, .slice none 0 0, .bool false, .slice none 0 0]] iF (fun _ _ => True)) vF wF) [10] (by simp) ?_ ?_ ?_ ?_
  ·intro i v w w' _ h hk
   refine stabL_get ?_ i v w w' h hk
   exact stab_cons st_e (stab_cons st_e (stab_cons st_e (stab_cons st_q (stab_cons st_q (stab_cons st_e (stab_cons st_t (stab_cons st_t (stab_cons st_f (stab_cons st_e (stab_cons st_a stab_nil))))))))))
  ·intro i hi vs w3 hk3 hd
   have S3 := S.drew.below hk3
   obtain ⟨a0, a1, a2, a3⟩ := S3.cc4 4 rfl
   obtain ⟨a4, a5, a6, a7⟩ := S3.cc4 0 rfl
   match i, hi with
   | 0, _ =>
    refine sv0 [] (ve (.agg #[.bool b3, .slice A3 n3 c3, .bool d3, .slice B3 m3 e3])) rfl fun K hK => ?_; clear hd; simp only [frD] at hK ⊢; go_simp
    exact hK _ _ bl rfl
   | 1, _ =>
    refine sv0 [] (ve (.agg #[.bool b3, .slice A3 n3 c3, .bool d3, .slice B3 m3 e3])) rfl fun K hK => ?_; clear hd; simp only [frD] at hK ⊢; go_simp
    exact hK _ _ bl rfl
   | 2, _ =>
    refine sv0 [] (ve (.agg #[.bool b3, .slice A3 n3 c3, .bool d3, .slice B3 m3 e3])) rfl fun K hK => ?_; clear hd; simp only [frD] at hK ⊢; go_simp
    exact hK _ _ bl rfl
   | 3, _ =>
    have qe1 : (vs 1) = .agg #[.bool b3, .slice A3 n3 c3, .bool d3, .slice B3 m3 e3] := hdk hd 1; have qe2 : (vs 2) = .agg #[.bool b3, .slice A3 n3 c3, .bool d3, .slice B3 m3 e3] := hdk hd 2
    refine sc (A := #[(vs 1), (vs 2)]) (B := #[.agg #[.bool b3, .slice A3 n3 c3, .bool d3, .slice B3 m3 e3], .agg #[.bool b3, .slice A3 n3 c3, .bool d3, .slice B3 m3 e3]]) [(1, some 21), (2, some 22)] (fun vF wF => RatRep wF vF (x * x)) rfl (wanted_none rfl) (by rw [qe1, qe2]) Tryz.func32 ?_
    refine ((fmul_num (S3.ri 3 rfl) (S3.ri 3 rfl))).mono ?_; rintro e w4 ⟨U, rfl, hr, hk4⟩; exact ⟨_, rfl, hk4, hr⟩
   | 4, _ =>
    have qe0 : (vs 0) = .agg #[.bool b3, .slice A3 n3 c3, .bool d3, .slice B3 m3 e3] := hdk hd 0; have h3 : RatRep w3 (vs 3) (x * x) := hdk hd 3
    refine sc (A := #[(vs 0), (vs 3)]) (B := #[.agg #[.bool b3, .slice A3 n3 c3, .bool d3, .slice B3 m3 e3], (vs 3)]) [(0, some 20), (3, some 23)] (fun vF wF => RatRep wF vF (x * (x * x))) rfl (wanted_none rfl) (by rw [qe0]) Tryz.func32 ?_
    refine ((fmul_num (S3.ri 3 rfl) (h3.num (by omega)))).mono ?_; rintro e w4 ⟨U, rfl, hr, hk4⟩; exact ⟨_, rfl, hk4, hr⟩
   | 5, _ =>
    refine sv0 [] (ve (.agg #[.bool b6, .slice A6 n6 c6, .bool d6, .slice B6 m6 e6])) rfl fun K hK => ?_; clear hd; simp only [frD] at hK ⊢; go_simp
    exact hK _ _ bl rfl
   | 6, _ =>
    have h4 : RatRep w3 (vs 4) (x * (x * x)) := hdk hd 4; have qe5 : (vs 5) = .agg #[.bool b6, .slice A6 n6 c6, .bool d6, .slice B6 m6 e6] := hdk hd 5
    refine sc (A := #[(vs 4), (vs 5)]) (B := #[(vs 4), .agg #[.bool b6, .slice A6 n6 c6, .bool d6, .slice B6 m6 e6]]) [(4, some 24), (5, some 25)] (fun vF wF => TupQ (0) ((x * (x * x)) / ((((3 : Int) : Rat)) * ((x - y) * (x - z)))) vF wF) rfl (wanted_none rfl) (by rw [qe5]) Tryz.func65 ?_
    refine ((rcode_eq (c' := 0) (fdivide_num (h4.num (by omega)) ((S3.qi 0 rfl).num (by omega))) H0.out rfl)).mono ?_; rintro e w4 ⟨U, rfl, hr, hk4⟩; exact ⟨_, rfl, hk4, ⟨U, rfl, hr⟩⟩
   | 7, _ =>
    have h6 : TupQ (0) ((x * (x * x)) / ((((3 : Int) : Rat)) * ((x - y) * (x - z)))) (vs 6) w3 := hdk hd 6; obtain ⟨Q9, q9, hQ9⟩ := h6
    refine sv0 [(6, some 26)] (fun vF wF => TupQ (0) ((x * (x * x)) / ((((3 : Int) : Rat)) * ((x - y) * (x - z)))) vF wF) rfl fun K hK => ?_; clear hd; simp only [frD, q9] at hK ⊢; go_simp
    exact hK _ _ bl ⟨Q9, rfl, hQ9⟩
   | 8, _ =>
    have h7 : TupQ (0) ((x * (x * x)) / ((((3 : Int) : Rat)) * ((x - y) * (x - z)))) (vs 7) w3 := hdk hd 7; obtain ⟨Q9, q9, hQ9⟩ := h7
    refine sv0 [(7, some 19)] (fun vF wF => FstQ (0) ((x * (x * x)) / ((((3 : Int) : Rat)) * ((x - y) * (x - z)))) vF wF) rfl fun K hK => ?_; clear hd; simp only [frD, q9] at hK ⊢; go_simp
    exact hK _ _ bl hQ9
   | 9, _ =>
    have h7 : TupQ (0) ((x * (x * x)) / ((((3 : Int) : Rat)) * ((x - y) * (x - z)))) (vs 7) w3 := hdk hd 7; obtain ⟨Q9, q9, hQ9⟩ := h7
    refine sv0 [(7, some 19)] (ve (.int .i64 (0))) rfl fun K hK => ?_; clear hd; simp only [frD, q9] at hK ⊢; go_simp
    exact hK _ _ bl rfl
   | 10, _ =>
    refine step_yes [] rfl (by kernel_rfl) fun K hK => ?_; simp only [frD] at hK ⊢; refine ⟨by rfl, ?_⟩; go_simp
    exact hK _ _ ⟨bl.alloc (Nat.le_refl _) _, ⟨_, rfl, hk3.size, Own.new w3 _ _⟩, fun _ => ⟨rfl, by simp⟩⟩
   | i + 11, hi => exact absurd hi (by omega)
  ·intro vs w3 hk3 hd
   have h7 : TupQ (0) ((x * (x * x)) / ((((3 : Int) : Rat)) * ((x - y) * (x - z)))) (vs 7) w3 := hdk hd 7; obtain ⟨Q9, q9, hQ9⟩ := h7
   refine pure_at (v := .int .i64 0) [(7, some 19)] rfl (by kernel_rfl) (by exact rfl) fun w4 K hK => ?_; simp only [frD, q9] at hK ⊢; refine ⟨by rfl, ?_⟩; go_simp; exact hK
  ·intro vs W4 hk3 hΦ _
   simp only [List.drop_succ_cons, List.drop_zero]
   rw [fr_frD, show (List.range 11).map _ = [(0, some 20), (1, some 21), (2, some 22), (3, some 23), (4, some 24), (5, some 25), (6, some 26), (7, some 19), (8, some 27), (9, some 28), (10, some 8)] by kernel_rfl]
   have pb0 : (vs 0) = .agg #[.bool b3, .slice A3 n3 c3, .bool d3, .slice B3 m3 e3] := hΦ 0 (by decide)
   have pb1 : (vs 1) = .agg #[.bool b3, .slice A3 n3 c3, .bool d3, .slice B3 m3 e3] := hΦ 1 (by decide)
   have pb2 : (vs 2) = .agg #[.bool b3, .slice A3 n3 c3, .bool d3, .slice B3 m3 e3] := hΦ 2 (by decide)
   have pb3 : RatRep W4 (vs 3) (x * x) := hΦ 3 (by decide)
   have pb4 : RatRep W4 (vs 4) (x * (x * x)) := hΦ 4 (by decide)
   have pb5 : (vs 5) = .agg #[.bool b6, .slice A6 n6 c6, .bool d6, .slice B6 m6 e6] := hΦ 5 (by decide)
   have pb6 : TupQ (0) ((x * (x * x)) / ((((3 : Int) : Rat)) * ((x - y) * (x - z)))) (vs 6) W4 := hΦ 6 (by decide)
   have pb7 : TupQ (0) ((x * (x * x)) / ((((3 : Int) : Rat)) * ((x - y) * (x - z)))) (vs 7) W4 := hΦ 7 (by decide)
   have pb8 : FstQ (0) ((x * (x * x)) / ((((3 : Int) : Rat)) * ((x - y) * (x - z)))) (vs 8) W4 := hΦ 8 (by decide)
   have pb9 : (vs 9) = .int .i64 (0) := hΦ 9 (by decide)
   have pb10 : ∃ b, (vs 10) = .pointer (some ⟨b, 0, none⟩) ∧ W3.heap.size ≤ b ∧ Own W4 b 35 [.bool false, .slice none 0 0, .bool false, .slice none 0 0] := hΦ 10 (by decide)
   clear hΦ
   obtain ⟨bpb10, qA10, hlA10, hOA10⟩ := pb10
   simp only [frD, pb0, pb1, pb2, pb5, pb9, qA10]
   simp only [Act.put, List.setIfInBounds_toArray, List.set_cons_zero, List.set_cons_succ]
   clear pb0 pb1 pb2 pb5 pb9
   generalize vs 3 = Upb3 at pb3 ⊢
   generalize vs 4 = Upb4 at pb4 ⊢
   generalize vs 6 = Upb6 at pb6 ⊢
   generalize vs 7 = Upb7 at pb7 ⊢
   generalize vs 8 = Upb8 at pb8 ⊢
   replace S := S.drew.box (S.drew.below hk3) hOA10 hlA10
   clear qA10 hlA10 hOA10
   clear pb3
   clear pb4
   clear pb6
   clear pb7
   have hp := FstQ.rep pb8
   obtain ⟨b7, A7, n7, c7, d7, B7, m7, e7, rfl⟩ := hp.open_
   replace S := S.addQ hp
   clear hp pb8
   clear hk3
   have r5_0 := S.c 0 0 rfl rfl
   have f5_0 := S.f 0 0 rfl
   have r5_1 := S.c 0 1 rfl rfl
   have f5_1 := S.f 0 1 rfl
   have r5_2 := S.c 0 2 rfl rfl
   have f5_2 := S.f 0 2 rfl
   have r5_3 := S.c 0 3 rfl rfl
   have f5_3 := S.f 0 3 rfl
   go_upto_region 3 with fail
   replace S := (S.put4 0 rfl rfl rfl (x' := .bool b7) (y' := .slice A7 n7 c7) (z' := .bool d7) (u' := .slice B7 m7 e7))
   obtain ⟨W5, eW, S⟩ := S.pack
   rw [eW]
   clear eW
   clear r5_0 f5_0 r5_1 f5_1 r5_2 f5_2 r5_3 f5_3
   have r3_0 := S.c 2 0 rfl rfl
   have f3_0 := S.f 2 0 rfl
   have r3_1 := S.c 2 1 rfl rfl
   have f3_1 := S.f 2 1 rfl
   have r3_2 := S.c 2 2 rfl rfl
   have f3_2 := S.f 2 2 rfl
   have r3_3 := S.c 2 3 rfl rfl
   have f3_3 := S.f 2 3 rfl
   obtain ⟨r5_0, r5_1, r5_2, r5_3⟩ := S.cc4 0 rfl
   go_wp2
   replace S := (S.put4 2 rfl rfl rfl (x' := .bool b7) (y' := .slice A7 n7 c7) (z' := .bool d7) (u' := .slice B7 m7 e7))
   refine bodyPost_ret (v := .agg #[.bool b7, .slice A7 n7 c7, .bool d7, .slice B7 m7 e7]) (by simp [results, Tryz.results109, go_sem, S.c 2 0 rfl rfl, S.c 2 1 rfl rfl, S.c 2 2 rfl rfl, S.c 2 3 rfl rfl]) rfl ?_
   exact ⟨_, rfl, S.qi 0 rfl, S.k⟩
end Go.Proofs.YtecibfncnaccjaaGreat
