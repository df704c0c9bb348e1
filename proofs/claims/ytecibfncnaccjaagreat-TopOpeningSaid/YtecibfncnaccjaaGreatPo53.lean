/- Rows of ints and of corners compared by slices.Equal; raster.Equal. fiducialtop.dVolumesAwake: the walk. How long the volumes and areas of surfaces are, as fractions. No program in sight. The walk of the law TopVolumes. -/
import Derived.Test.YtecibfncnaccjaaGreatPo52
import Derived.Test.YtecibfncnaccjaaGreatPo12
import Derived.Deep.QuietTactic
import Derived.BigQuiet
import Derived.Test.YtecibfncnaccjaaGreatPo49
import Derived.Test.YtecibfncnaccjaaGreatPo47
import Derived.Test.YtecibfncnaccjaaGreatPo48
import Derived.Test.YtecibfncnaccjaaGreatPo51
import Derived.Test.YtecibfncnaccjaaGreatPo40
namespace Go.Proofs.YtecibfncnaccjaaGreat
open Go.RowKit Go.Shelf
theorem equalQ_any {w : World} {A B : Option Addr} {xs ys : List Int} {n m c d : Nat} (hA : IRow w A xs) (hB : IRow w B ys) (hn : n = xs.length) (hm : m = ys.length) (hl : xs.length ≤ maxLen) (hl' : ys.length ≤ maxLen) :
 Calls Tryz.prog 26 #[.slice A n c, .slice B m d] w fun e w' => e = .returned (.bool (decide (xs = ys))) ∧ ∃ q, w' = w.drewN q := by
 subst hn hm
 simp only [maxLen] at hl hl'
 by_cases h0 : xs.length = 0
 ·obtain rfl := List.length_eq_zero_iff.1 h0
  refine (Tryz.slices_Equal_int_empty A B c ys.length d w (by omega)).mono ?_
  rintro e w' ⟨rfl, rfl⟩
  refine ⟨?_, 0, rfl⟩
  congr 2
  cases ys <;> simp
 ·by_cases h1 : xs.length = ys.length
  ·obtain ⟨b1, o1, rfl, -, c1⟩ := hA (by omega)
   obtain ⟨b2, o2, rfl, -, c2⟩ := hB (by omega)
   refine (Tryz.slices_Equal_int b1 o1 xs.length c b2 o2 ys.length d xs ys w (Nat.le_refl _) (Nat.le_refl _) (by omega) (by omega) c1 c2).mono ?_
   rintro e w' ⟨rfl, q, rfl⟩
   refine ⟨?_, q, rfl⟩
   congr 2
   rw [List.take_length, List.take_length]
   by_cases h : xs = ys
   ·subst h; simp
   ·simp [h]
  ·refine (Tryz.slices_Equal_int_lens A B xs.length c ys.length d w h1).mono ?_
   rintro e w' ⟨rfl, rfl⟩
   refine ⟨?_, 0, rfl⟩
   congr 2
   exact (decide_eq_false fun h => h1 (by rw [h])).symm
abbrev l6 : List Int := [6, 6, 6, 6]
theorem awk_chk : chkG 0 0 10 (2 : Nat) (2 : Nat) l6 = 0 := by decide +kernel
theorem awk_up : lvUp 10 2 2 l6 0 = ((600 : Int) : Rat) := by decide +kernel
theorem awk_a : totA 10 2 2 l6 1 = ((100 : Int) : Rat) := by decide +kernel
theorem awk_o : openL 2 2 1 l6 = l6 := by decide +kernel
section
variable {w : World} {g : Nat}
theorem awk_level (h : Own w g 3 (i64s l6)) : Calls Tryz.prog 11 #[grV 0 0 10 2 2 (some ⟨g, 0, none⟩) 4 4, .int .i64 0] w fun e w' => ∃ U V, e = .returned (.tuple #[U, V, .int .i64 0]) ∧ RatRep w' U ((600 : Int) : Rat) ∧ RatRep w' V (lvDn 10 2 2 l6 0) ∧ Keeps w w' := by
 have := vlevel_any (c := 4) (own_irow h) 0 0 10 2 2 0 awk_chk (by decide) (by decide)
 rw [awk_up] at this
 exact this
theorem awk_above (h : Own w g 3 (i64s l6)) : Calls Tryz.prog 12 #[grV 0 0 10 2 2 (some ⟨g, 0, none⟩) 4 4, .int .i64 1] w (RCode 0 ((100 : Int) : Rat) w) := by
 have := cabove_any (cz := 4) (own_irow h) 0 0 10 1 2 2 awk_chk (by decide) (by decide) (by decide) (by decide)
 rw [awk_a] at this
 exact this
theorem awk_open (h : Own w g 3 (i64s l6)) : Calls Tryz.prog 22 #[grV 0 0 10 2 2 (some ⟨g, 0, none⟩) 4 4, .int .i64 1] w fun e w' => ∃ g, e = .returned (.tuple #[grV 0 0 10 2 2 (some ⟨g, 0, none⟩) 4 4, .int .i64 0]) ∧ w.heap.size ≤ g ∧ Own w' g 3 (i64s l6) ∧ Keeps w w' := by
 have := open_any (c := 4) (own_irow h) 0 0 10 2 2 1 awk_chk (by decide) (by decide)
 rw [awk_o] at this
 exact this
theorem awk_eq {a b : Nat} (h1 : Own w a 3 (i64s l6)) (h2 : Own w b 3 (i64s l6)) : Calls Tryz.prog 26 #[.slice (some ⟨a, 0, none⟩) 4 4, .slice (some ⟨b, 0, none⟩) 4 4] w fun e w' => e = .returned (.bool true) ∧ Keeps w w' := by
 refine (equalQ_any (c := 4) (d := 4) (n := 4) (m := 4) (own_irow h1) (own_irow h2) rfl rfl (by decide) (by decide)).mono ?_
 rintro e w' ⟨rfl, q, rfl⟩
 exact ⟨rfl, below_drewN bl q⟩
end
set_option maxRecDepth 100000 in
set_option maxHeartbeats 4000000 in
theorem dawake (w : World) : Calls Tryz.prog 5 #[] w fun e w' => e = .returned (.bool true) ∧ Keeps w w' := by
 have S := ((St.start w).alloc 3 (i64s [6, 6, 6, 6])).alloc 24 (grL 0 0 10 2 2 (some ⟨w.heap.size, 0, none⟩) 4 4)
 simp only [World.size_alloc] at S
 obtain ⟨W0, hW0, S⟩ := S.pack
 have HLV := Lib.hid (fun (u : World) (h : Own u w.heap.size 3 (i64s [6, 6, 6, 6])) => awk_level h)
 have HAB := Lib.hid (fun (u : World) (h : Own u w.heap.size 3 (i64s [6, 6, 6, 6])) => awk_above h)
 have HOP := Lib.hid (fun (u : World) (h : Own u w.heap.size 3 (i64s [6, 6, 6, 6])) => awk_open h)
 have HEQ := Lib.hid (fun (u : World) (a b : Nat) (h1 : Own u a 3 (i64s [6, 6, 6, 6])) (h2 : Own u b 3 (i64s [6, 6, 6, 6])) => awk_eq h1 h2)
 obtain ⟨qdn, hqdn⟩ : ∃ q, lvDn 10 2 2 [6, 6, 6, 6] 0 = q := ⟨_, rfl⟩
 rw [hqdn] at HLV
 have z6 : szR ((600 : Int) : Rat) ≤ 1 := by decide +kernel
 have z1 : szR ((100 : Int) : Rat) ≤ 1 := by decide +kernel
 clear hqdn
 go_enter Tryz.func5, Tryz.ntmps5
 go_upto_region 2 with fail
 simp only [i64s, List.map_cons, List.map_nil, List.toArray] at hW0
 rw [hW0]
 clear hW0
 have y0 := szR_int 600
 have y1 := szR_int 100
 obtain ⟨r1_0, r1_1, r1_2, r1_3, r1_4, r1_5⟩ := S.cc6 0 rfl
 go_wp2_with fail
 refine ((HLV.out _ (S.o (p := (w.heap.size, 3, i64s [6, 6, 6, 6])) 1 rfl))).mono ?_
 rintro e W31 ⟨U31, V31, rfl, hp, hr, hk⟩
 obtain ⟨b33, A33, n33, c33, d33, B33, m33, e33, rfl⟩ := hp.open_
 obtain ⟨b34, A34, n34, c34, d34, B34, m34, e34, rfl⟩ := hr.open_
 replace S := ((S.below hk).addQ hp).addQ hr
 clear hk hp hr
 clear r1_0 r1_1 r1_2 r1_3 r1_4 r1_5
 go_upto_region 3 with fail
 replace S := ((S.alloc 35 [.bool b33, .slice A33 n33 c33, .bool d33, .slice B33 m33 e33]).alloc 35 [.bool b34, .slice A34 n34 c34, .bool d34, .slice B34 m34 e34])
 simp only [World.size_alloc] at S
 obtain ⟨W32, eW, S⟩ := S.pack
 rw [eW]
 clear eW
 generalize W31.heap.size = P31 at *
 obtain ⟨r1_0, r1_1, r1_2, r1_3, r1_4, r1_5⟩ := S.cc6 2 rfl
 go_wp2_with fail
 refine ((HAB.out _ (S.o (p := (w.heap.size, 3, i64s [6, 6, 6, 6])) 3 rfl))).mono ?_
 rintro e W33 ⟨U33, rfl, hp, hk⟩
 rw [if_pos rfl] at hp
 obtain ⟨b35, A35, n35, c35, d35, B35, m35, e35, rfl⟩ := hp.open_
 replace S := (S.below hk).addQ hp
 clear hk hp
 clear r1_0 r1_1 r1_2 r1_3 r1_4 r1_5
 go_upto_region 4 with fail
 replace S := (S.alloc 35 [.bool b35, .slice A35 n35 c35, .bool d35, .slice B35 m35 e35])
 obtain ⟨W34, eW, S⟩ := S.pack
 rw [eW]
 clear eW
 generalize W33.heap.size = P32 at *
 obtain ⟨r1_0, r1_1, r1_2, r1_3, r1_4, r1_5⟩ := S.cc6 3 rfl
 go_wp2_with fail
 refine ((HOP.out _ (S.o (p := (w.heap.size, 3, i64s [6, 6, 6, 6])) 4 rfl))).mono ?_
 rintro e W35 ⟨g2, rfl, hg2, hO2, hk⟩
 replace S := S.box (S.below hk) hO2 hg2
 clear hk hO2 hg2
 clear r1_0 r1_1 r1_2 r1_3 r1_4 r1_5
 go_upto_region 5 with fail
 replace S := (S.alloc 24 [.int .i64 0, .int .i64 0, .int .i64 10, .int .i64 2, .int .i64 2, .slice (some ⟨g2, 0, none⟩) 4 4])
 obtain ⟨W36, eW, S⟩ := S.pack
 rw [eW]
 clear eW
 generalize W35.heap.size = P33 at *
 refine wp_region_steps (m := 23) rfl (by kernel_rfl) (fun iF vF wF => (List.getD [ve (.int .i64 0), ve (.int .i64 0), ve (.int .i64 0), ve (.int .i64 0), ve (.int .i64 0), ve (.bool true), ve (.bool true), ve (.agg #[.bool b33, .slice A33 n33 c33, .bool d33, .slice B33 m33 e33]), fun vF wF => RatRep wF vF (((600 : Int) : Rat)), ve (.bool true), ve (.bool true), ve (.bool true), ve (.agg #[.bool b35, .slice A35 n35 c35, .bool d35, .slice B35 m35 e35]), fun vF wF => RatRep wF vF (((100 : Int) : Rat)), ve (.bool true), ve (.bool true), ve (.bool true), ve (.pointer (some ⟨P33, 5, none⟩)), ve (.slice (some ⟨g2, 0, none⟩) 4 4), ve (.pointer (some ⟨w.heap.size + 1, 5, none⟩)), ve (.slice (some ⟨w.heap.size, 0, none⟩) 4 4), ve (.bool true), ve (.bool true)] iF (fun _ _ => True)) vF wF) [] ?_ ?_ ?_
 ·intro i v w w' _ h hk
  refine stabL_get ?_ i v w w' h hk
  exact stab_cons st_e (stab_cons st_e (stab_cons st_e (stab_cons st_e (stab_cons st_e (stab_cons st_e (stab_cons st_e (stab_cons st_e (stab_cons st_q (stab_cons st_e (stab_cons st_e (stab_cons st_e (stab_cons st_e (stab_cons st_q (stab_cons st_e (stab_cons st_e (stab_cons st_e (stab_cons st_e (stab_cons st_e (stab_cons st_e (stab_cons st_e (stab_cons st_e (stab_cons st_e stab_nil))))))))))))))))))))))
 ·intro i hi vs w3 hk3 hd
  have S3 := S.drew.below hk3
  obtain ⟨a0, a1, a2, a3, a4, a5⟩ := S3.cc6 5 rfl
  obtain ⟨a6, a7, a8, a9⟩ := S3.cc4 4 rfl
  obtain ⟨a10, a11, a12, a13⟩ := S3.cc4 2 rfl
  obtain ⟨a14, a15, a16, a17, a18, a19⟩ := S3.cc6 0 rfl
  match i, hi with
  | 0, _ =>
   refine sv0 [] (ve (.int .i64 0)) rfl fun K hK => ?_; clear hd; simp only [frD] at hK ⊢; go_simp
   exact hK _ _ bl rfl
  | 1, _ =>
   refine sv0 [] (ve (.int .i64 0)) rfl fun K hK => ?_; clear hd; simp only [frD] at hK ⊢; go_simp
   exact hK _ _ bl rfl
  | 2, _ =>
   have qe0 : (vs 0) = .int .i64 0 := hdk hd 0; have qe1 : (vs 1) = .int .i64 0 := hdk hd 1
   refine sv0 [(0, some 27), (1, some 28)] (ve (.int .i64 0)) rfl fun K hK => ?_; clear hd; simp only [frD, qe0, qe1] at hK ⊢; go_simp
   exact hK _ _ bl rfl
  | 3, _ =>
   refine sv0 [] (ve (.int .i64 0)) rfl fun K hK => ?_; clear hd; simp only [frD] at hK ⊢; go_simp
   exact hK _ _ bl rfl
  | 4, _ =>
   have qe2 : (vs 2) = .int .i64 0 := hdk hd 2; have qe3 : (vs 3) = .int .i64 0 := hdk hd 3
   refine sv0 [(2, some 29), (3, some 30)] (ve (.int .i64 0)) rfl fun K hK => ?_; clear hd; simp only [frD, qe2, qe3] at hK ⊢; go_simp
   exact hK _ _ bl rfl
  | 5, _ =>
   have qe4 : (vs 4) = .int .i64 0 := hdk hd 4
   refine sv0 [(4, some 31)] (ve (.bool true)) rfl fun K hK => ?_; clear hd; simp only [frD, qe4] at hK ⊢; go_simp
   exact hK _ _ bl rfl
  | 6, _ =>
   have qe5 : (vs 5) = .bool true := hdk hd 5
   refine sv0 [(5, some 32)] (ve (.bool true)) rfl fun K hK => ?_; clear hd; simp only [frD, qe5] at hK ⊢; go_simp
   exact hK _ _ bl rfl
  | 7, _ =>
   have qe6 : (vs 6) = .bool true := hdk hd 6
   refine svg [(6, some 33)] (ve (.agg #[.bool b33, .slice A33 n33 c33, .bool d33, .slice B33 m33 e33])) rfl (ws 33 qe6) fun K hK => ?_; clear hd; simp only [frD, qe6] at hK ⊢; go_simp
   exact hK _ _ bl rfl
  | 8, _ =>
   have qe6 : (vs 6) = .bool true := hdk hd 6
   refine sc (A := #[.int .i64 600]) (B := #[.int .i64 600]) [(6, some 33)] (fun vF wF => RatRep wF vF (((600 : Int) : Rat))) rfl (ws 33 qe6) rfl Tryz.func14 ?_
   refine ((gint_num 600 (by omega) (by omega))).mono ?_; rintro e w4 ⟨U, rfl, hr, hk4⟩; exact ⟨_, rfl, hk4, hr⟩
  | 9, _ =>
   have qe6 : (vs 6) = .bool true := hdk hd 6; have qe7 : (vs 7) = .agg #[.bool b33, .slice A33 n33 c33, .bool d33, .slice B33 m33 e33] := hdk hd 7; have h8 : RatRep w3 (vs 8) (((600 : Int) : Rat)) := hdk hd 8
   refine sc (A := #[(vs 7), (vs 8)]) (B := #[.agg #[.bool b33, .slice A33 n33 c33, .bool d33, .slice B33 m33 e33], (vs 8)]) [(6, some 33), (7, some 34), (8, some 35)] (ve (.bool true)) rfl (ws 33 qe6) (by rw [qe7]) Tryz.func16 ?_
   refine ((gsamer_s (b := true) (S3.qi 2 rfl) h8 (by omega) (decide_eq_true rfl))).mono ?_; rintro e w4 ⟨rfl, hk4⟩; exact ⟨_, rfl, hk4, rfl⟩
  | 10, _ =>
   have qe6 : (vs 6) = .bool true := hdk hd 6; have qe9 : (vs 9) = .bool true := hdk hd 9
   refine sv0 [(6, some 33), (9, some 36)] (ve (.bool true)) rfl fun K hK => ?_; clear hd; simp only [frD, qe6, qe9] at hK ⊢; go_simp
   exact hK _ _ bl rfl
  | 11, _ =>
   have qe9 : (vs 9) = .bool true := hdk hd 9; have qe10 : (vs 10) = .bool true := hdk hd 10
   refine sv0 [(9, some 36), (10, some 37)] (ve (.bool true)) rfl fun K hK => ?_; clear hd; simp only [frD, qe9, qe10] at hK ⊢; go_simp
   exact hK _ _ bl rfl
  | 12, _ =>
   have qe11 : (vs 11) = .bool true := hdk hd 11
   refine svg [(11, some 38)] (ve (.agg #[.bool b35, .slice A35 n35 c35, .bool d35, .slice B35 m35 e35])) rfl (ws 38 qe11) fun K hK => ?_; clear hd; simp only [frD, qe11] at hK ⊢; go_simp
   exact hK _ _ bl rfl
  | 13, _ =>
   have qe11 : (vs 11) = .bool true := hdk hd 11
   refine sc (A := #[.int .i64 100]) (B := #[.int .i64 100]) [(11, some 38)] (fun vF wF => RatRep wF vF (((100 : Int) : Rat))) rfl (ws 38 qe11) rfl Tryz.func14 ?_
   refine ((gint_num 100 (by omega) (by omega))).mono ?_; rintro e w4 ⟨U, rfl, hr, hk4⟩; exact ⟨_, rfl, hk4, hr⟩
  | 14, _ =>
   have qe11 : (vs 11) = .bool true := hdk hd 11; have qe12 : (vs 12) = .agg #[.bool b35, .slice A35 n35 c35, .bool d35, .slice B35 m35 e35] := hdk hd 12; have h13 : RatRep w3 (vs 13) (((100 : Int) : Rat)) := hdk hd 13
   refine sc (A := #[(vs 12), (vs 13)]) (B := #[.agg #[.bool b35, .slice A35 n35 c35, .bool d35, .slice B35 m35 e35], (vs 13)]) [(11, some 38), (12, some 39), (13, some 40)] (ve (.bool true)) rfl (ws 38 qe11) (by rw [qe12]) Tryz.func16 ?_
   refine ((gsamer_s (b := true) (S3.qi 0 rfl) h13 (by omega) (decide_eq_true rfl))).mono ?_; rintro e w4 ⟨rfl, hk4⟩; exact ⟨_, rfl, hk4, rfl⟩
  | 15, _ =>
   have qe11 : (vs 11) = .bool true := hdk hd 11; have qe14 : (vs 14) = .bool true := hdk hd 14
   refine sv0 [(11, some 38), (14, some 41)] (ve (.bool true)) rfl fun K hK => ?_; clear hd; simp only [frD, qe11, qe14] at hK ⊢; go_simp
   exact hK _ _ bl rfl
  | 16, _ =>
   have qe14 : (vs 14) = .bool true := hdk hd 14; have qe15 : (vs 15) = .bool true := hdk hd 15
   refine sv0 [(14, some 41), (15, some 42)] (ve (.bool true)) rfl fun K hK => ?_; clear hd; simp only [frD, qe14, qe15] at hK ⊢; go_simp
   exact hK _ _ bl rfl
  | 17, _ =>
   have qe16 : (vs 16) = .bool true := hdk hd 16
   refine svg [(16, some 43)] (ve (.pointer (some ⟨P33, 5, none⟩))) rfl (ws 43 qe16) fun K hK => ?_; clear hd; simp only [frD, qe16] at hK ⊢; go_simp
   exact hK _ _ bl rfl
  | 18, _ =>
   have qe16 : (vs 16) = .bool true := hdk hd 16; have qe17 : (vs 17) = .pointer (some ⟨P33, 5, none⟩) := hdk hd 17
   refine svg [(16, some 43), (17, some 44)] (ve (.slice (some ⟨g2, 0, none⟩) 4 4)) rfl (ws 43 qe16) fun K hK => ?_; clear hd; simp only [frD, qe16, qe17] at hK ⊢; go_simp
   exact hK _ _ bl rfl
  | 19, _ =>
   have qe16 : (vs 16) = .bool true := hdk hd 16
   refine svg [(16, some 43)] (ve (.pointer (some ⟨w.heap.size + 1, 5, none⟩))) rfl (ws 43 qe16) fun K hK => ?_; clear hd; simp only [frD, qe16] at hK ⊢; go_simp
   exact hK _ _ bl rfl
  | 20, _ =>
   have qe16 : (vs 16) = .bool true := hdk hd 16; have qe19 : (vs 19) = .pointer (some ⟨w.heap.size + 1, 5, none⟩) := hdk hd 19
   refine svg [(16, some 43), (19, some 46)] (ve (.slice (some ⟨w.heap.size, 0, none⟩) 4 4)) rfl (ws 43 qe16) fun K hK => ?_; clear hd; simp only [frD, qe16, qe19] at hK ⊢; go_simp
   exact hK _ _ bl rfl
  | 21, _ =>
   have qe16 : (vs 16) = .bool true := hdk hd 16; have qe18 : (vs 18) = .slice (some ⟨g2, 0, none⟩) 4 4 := hdk hd 18; have qe20 : (vs 20) = .slice (some ⟨w.heap.size, 0, none⟩) 4 4 := hdk hd 20
   refine sc (A := #[(vs 18), (vs 20)]) (B := #[.slice (some ⟨g2, 0, none⟩) 4 4, .slice (some ⟨w.heap.size, 0, none⟩) 4 4]) [(16, some 43), (18, some 45), (20, some 47)] (ve (.bool true)) rfl (ws 43 qe16) (by rw [qe18, qe20]) Tryz.func26 ?_
   refine ((HEQ.out _ _ _ (S3.o (p := (g2, 3, i64s [6, 6, 6, 6])) 1 rfl) (S3.o (p := (w.heap.size, 3, i64s [6, 6, 6, 6])) 6 rfl))).mono ?_; rintro e w4 ⟨rfl, hk4⟩; exact ⟨_, rfl, hk4, rfl⟩
  | 22, _ =>
   have qe16 : (vs 16) = .bool true := hdk hd 16; have qe21 : (vs 21) = .bool true := hdk hd 21
   refine sv0 [(16, some 43), (21, some 48)] (ve (.bool true)) rfl fun K hK => ?_; clear hd; simp only [frD, qe16, qe21] at hK ⊢; go_simp
   exact hK _ _ bl rfl
  | i + 23, hi => exact absurd hi (by omega)
 ·intro vs W37 hk3 hΦ _
  simp only [List.drop_succ_cons, List.drop_zero]
  rw [fr_frD, show (List.range 23).map _ = [(0, some 27), (1, some 28), (2, some 29), (3, some 30), (4, some 31), (5, some 32), (6, some 33), (7, some 34), (8, some 35), (9, some 36), (10, some 37), (11, some 38), (12, some 39), (13, some 40), (14, some 41), (15, some 42), (16, some 43), (17, some 44), (18, some 45), (19, some 46), (20, some 47), (21, some 48), (22, some 49)] by kernel_rfl]
  have pf0 : (vs 0) = .int .i64 0 := hΦ 0 (by decide)
  have pf1 : (vs 1) = .int .i64 0 := hΦ 1 (by decide)
  have pf2 : (vs 2) = .int .i64 0 := hΦ 2 (by decide)
  have pf3 : (vs 3) = .int .i64 0 := hΦ 3 (by decide)
  have pf4 : (vs 4) = .int .i64 0 := hΦ 4 (by decide)
  have pf5 : (vs 5) = .bool true := hΦ 5 (by decide)
  have pf6 : (vs 6) = .bool true := hΦ 6 (by decide)
  have pf7 : (vs 7) = .agg #[.bool b33, .slice A33 n33 c33, .bool d33, .slice B33 m33 e33] := hΦ 7 (by decide)
  have pf8 : RatRep W37 (vs 8) (((600 : Int) : Rat)) := hΦ 8 (by decide)
  have pf9 : (vs 9) = .bool true := hΦ 9 (by decide)
  have pf10 : (vs 10) = .bool true := hΦ 10 (by decide)
  have pf11 : (vs 11) = .bool true := hΦ 11 (by decide)
  have pf12 : (vs 12) = .agg #[.bool b35, .slice A35 n35 c35, .bool d35, .slice B35 m35 e35] := hΦ 12 (by decide)
  have pf13 : RatRep W37 (vs 13) (((100 : Int) : Rat)) := hΦ 13 (by decide)
  have pf14 : (vs 14) = .bool true := hΦ 14 (by decide)
  have pf15 : (vs 15) = .bool true := hΦ 15 (by decide)
  have pf16 : (vs 16) = .bool true := hΦ 16 (by decide)
  have pf17 : (vs 17) = .pointer (some ⟨P33, 5, none⟩) := hΦ 17 (by decide)
  have pf18 : (vs 18) = .slice (some ⟨g2, 0, none⟩) 4 4 := hΦ 18 (by decide)
  have pf19 : (vs 19) = .pointer (some ⟨w.heap.size + 1, 5, none⟩) := hΦ 19 (by decide)
  have pf20 : (vs 20) = .slice (some ⟨w.heap.size, 0, none⟩) 4 4 := hΦ 20 (by decide)
  have pf21 : (vs 21) = .bool true := hΦ 21 (by decide)
  have pf22 : (vs 22) = .bool true := hΦ 22 (by decide)
  clear hΦ
  simp only [frD, pf0, pf1, pf2, pf3, pf4, pf5, pf6, pf7, pf9, pf10, pf11, pf12, pf14, pf15, pf16, pf17, pf18, pf19, pf20, pf21, pf22]
  simp only [Act.put, List.setIfInBounds_toArray, List.set_cons_zero, List.set_cons_succ]
  clear pf0 pf1 pf2 pf3 pf4 pf5 pf6 pf7 pf9 pf10 pf11 pf12 pf14 pf15 pf16 pf17 pf18 pf19 pf20 pf21 pf22
  generalize vs 8 = Upf8 at pf8 ⊢
  generalize vs 13 = Upf13 at pf13 ⊢
  replace S := S.drew.below hk3
  clear pf8
  clear pf13
  clear hk3
  go_wp2
  go_ret
  exact ⟨rfl, S.k⟩
end Go.Proofs.YtecibfncnaccjaaGreat
namespace Go.Proofs.YtecibfncnaccjaaGreat
theorem szT_sum {l : List Tri} {f : Tri → Rat} (h : ∀ t ∈ l, szR (f t) ≤ 30) (hn : l.length ≤ 200) : szR (sumR (l.map f)) ≤ 6201 := by
 have h1 := szR_sum (m := 30) (l := l.map f) (fun q hq => by obtain ⟨t, ht, rfl⟩ := List.mem_map.1 hq; exact h t ht) _ (Nat.le_refl _)
 rw [List.take_length, List.length_map] at h1
 omega
theorem szT_half {st : Int} (h1 : 2 ≤ st) (h2 : st ≤ 65536) : szR (Rat.divInt (st * st) 2) ≤ 3 := by
 have hq0 : 0 ≤ st * st := Int.mul_nonneg (by omega) (by omega)
 have hq1 : st * st ≤ 65536 * 65536 := Int.mul_le_mul h2 h2 (by omega) (by omega)
 obtain ⟨sq, hsq⟩ : ∃ q, st * st = q := ⟨_, rfl⟩
 rw [hsq] at hq0 hq1 ⊢
 have h1 := szR_divInt sq 2 (by decide)
 have h2 : lenI sq ≤ 2 := dig_length_le (n := sq.natAbs) (k := 2) (by omega)
 have h3 : lenI 2 ≤ 1 := by decide +kernel
 omega
section
variable {st lv z : Int} {W H : Nat} {zs : List Int}
theorem szT_len (hl : zs.length = W * H) (hn : zs.length ≤ 100) : (triL W H zs).length ≤ 200 := by have := triL_len W H zs; omega
theorem sz_lvUp (hs1 : 2 ≤ st) (hs2 : st ≤ 65536) (hse : st.tmod 2 = 0) (hl : zs.length = W * H) (hn : zs.length ≤ 100) (hz : ∀ z ∈ zs, badZ z = false) (hv : -2000000 ≤ z ∧ z ≤ 2000000) : szR (lvUp st W H zs z) ≤ 6300 := by
 have h1 := szT_sum (l := triL W H zs) (f := upI fun k => zs.getD k 0 - z) (fun t ht => by
  obtain ⟨-, h1, h2, h3⟩ := triL_bd hl hz ht
  have e1 : ∀ n : Int, -1048576 ≤ n → n ≤ 1048576 → szR ((n - z : Int) : Rat) ≤ 1 := fun n a b => szR_i1 (by omega) (by omega)
  exact (szR_upV (e1 _ h1.1 h1.2) (e1 _ h2.1 h2.2) (e1 _ h3.1 h3.2)).1) (szT_len hl hn)
 have h2 := szT_half hs1 hs2
 have h3 := szR_mul (Rat.divInt (st * st) 2) (sumR ((triL W H zs).map (upI fun k => zs.getD k 0 - z)))
 unfold lvUp
 rw [half_step hse]
 omega
end
end Go.Proofs.YtecibfncnaccjaaGreat
namespace Go.Proofs.YtecibfncnaccjaaGreat
open Go.RowKit Go.Shelf
theorem big_bd {zs : List Int} (h : zs.any bigZ = false) {y : Int} (hy : y ∈ zs) : y = -2147483648 ∨ (-524288 ≤ y ∧ y ≤ 524288) := by
 have hb : bigZ y = false := by
  cases hc : bigZ y with
  | false => rfl
  | true => exact absurd (List.any_eq_true.2 ⟨y, hy, hc⟩) (by rw [h]; simp)
 unfold bigZ at hb
 by_cases e : y = -2147483648
 ·exact .inl e
 ·simp [e] at hb
  omega
end Go.Proofs.YtecibfncnaccjaaGreat
