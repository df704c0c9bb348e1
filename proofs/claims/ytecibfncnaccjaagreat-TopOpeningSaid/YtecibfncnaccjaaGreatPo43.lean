/- contour.total's function with contour.share and contour.Above$1: the walk. -/
import Derived.Test.YtecibfncnaccjaaGreatPo40
namespace Go.Proofs.YtecibfncnaccjaaGreat
open Go.RowKit Go.Shelf
set_option maxRecDepth 100000 in
set_option maxHeartbeats 4000000 in
theorem visit_a {w u : World} {bs : List Bx} {P9 : Nat} {b8 : Bool} {A8 : Option Addr} {n8 c8 : Nat} {d8 : Bool} {B8 : Option Addr} {m8 e8 : Nat} {su : Rat} {gx gy st gw gh lv : Int} {bz oz nz cz ta tb td : Nat} {z0 z1 z2 : Int}
 (S : St w u ((P9, 35, [.bool b8, .slice A8 n8 c8, .bool d8, .slice B8 m8 e8]) :: (w.heap.size + 1 + 1 + 1 + 1, 35, [.bool false, .slice none 0 0, .bool false, .slice none 0 0]) :: (w.heap.size + 1 + 1 + 1, 59, [.func (.func 43) #[] #[]]) :: (w.heap.size + 1 + 1, 58, [.func (.func 33) #[] #[]]) :: (w.heap.size + 1, 3, [.int .i64 lv]) :: (w.heap.size, 24, grL gx gy st gw gh (some ⟨bz, oz, none⟩) nz cz) :: bs) [fun w => RatRep w (.agg #[.bool b8, .slice A8 n8 c8, .bool d8, .slice B8 m8 e8]) su]) (zsu : szR su ≤ 20000)
 (hz0 : ∀ v, Keeps w v → v.cell? ⟨bz, oz + ta, none⟩ = some (.int .i64 z0)) (lta : (ta : Int) < nz) (bz0 : -2000000 ≤ z0 ∧ z0 ≤ 2000000)
 (hz1 : ∀ v, Keeps w v → v.cell? ⟨bz, oz + tb, none⟩ = some (.int .i64 z1)) (ltb : (tb : Int) < nz) (bz1 : -2000000 ≤ z1 ∧ z1 ≤ 2000000)
 (hz2 : ∀ v, Keeps w v → v.cell? ⟨bz, oz + td, none⟩ = some (.int .i64 z2)) (ltd : (td : Int) < nz) (bz2 : -2000000 ≤ z2 ∧ z2 ≤ 2000000)
 (_ : (nz : Int) ≤ 5000) (hlv : -3000000 ≤ lv ∧ lv ≤ 3000000) :
 Calls Tryz.prog 72 #[.agg #[.int .i64 (ta : Nat), .int .i64 (tb : Nat), .int .i64 (td : Nat)], .pointer (some ⟨w.heap.size, 0, none⟩), .pointer (some ⟨w.heap.size + 1, 0, none⟩), .pointer (some ⟨P9, 0, none⟩), .pointer (some ⟨w.heap.size + 1 + 1 + 1, 0, none⟩), .pointer (some ⟨w.heap.size + 1 + 1, 0, none⟩)] u fun e u' => e = .returned (.tuple #[]) ∧
  ∃ (b : Bool) (A1 : Option Addr) (n1 c1 : Nat) (d : Bool) (B1 : Option Addr) (m1 e1 : Nat), St w u' ((P9, 35, [.bool b, .slice A1 n1 c1, .bool d, .slice B1 m1 e1]) :: (w.heap.size + 1 + 1 + 1 + 1, 35, [.bool false, .slice none 0 0, .bool false, .slice none 0 0]) :: (w.heap.size + 1 + 1 + 1, 59, [.func (.func 43) #[] #[]]) :: (w.heap.size + 1 + 1, 58, [.func (.func 33) #[] #[]]) :: (w.heap.size + 1, 3, [.int .i64 lv]) :: (w.heap.size, 24, grL gx gy st gw gh (some ⟨bz, oz, none⟩) nz cz) :: bs) [fun w => RatRep w (.agg #[.bool b, .slice A1 n1 c1, .bool d, .slice B1 m1 e1]) (su + cT shR restA (Rat.divInt (2 * z0 - lv) 2, Rat.divInt (2 * z1 - lv) 2, Rat.divInt (2 * z2 - lv) 2))] := by
 obtain ⟨x0, hx0⟩ : ∃ x, Rat.divInt (2 * z0 - lv) 2 = x := ⟨_, rfl⟩
 have zx0 : szR x0 ≤ 1 := by rw [← hx0]; exact szR_small _ _ (by decide) (by omega) (by decide)
 obtain ⟨x1, hx1⟩ : ∃ x, Rat.divInt (2 * z1 - lv) 2 = x := ⟨_, rfl⟩
 have zx1 : szR x1 ≤ 1 := by rw [← hx1]; exact szR_small _ _ (by decide) (by omega) (by decide)
 obtain ⟨x2, hx2⟩ : ∃ x, Rat.divInt (2 * z2 - lv) 2 = x := ⟨_, rfl⟩
 have zx2 : szR x2 ≤ 1 := by rw [← hx2]; exact szR_small _ _ (by decide) (by omega) (by decide)
 have ZX : Hid (szR x0 ≤ 1 ∧ szR x1 ≤ 1 ∧ szR x2 ≤ 1) := Lib.hid ⟨zx0, zx1, zx2⟩
 rw [hx0, hx1, hx2]
 have HX0 := Lib.hid hx0
 have HZ0 := Lib.hid hz0
 obtain ⟨bz0a, bz0b⟩ := bz0
 have hw0 : IntKind.i64.wrap (2 * z0) = 2 * z0 := by rw [IntKind.wrap_i64]; omega
 have hv0 : IntKind.i64.wrap (2 * z0 - lv) = 2 * z0 - lv := by rw [IntKind.wrap_i64]; omega
 have HX1 := Lib.hid hx1
 have HZ1 := Lib.hid hz1
 obtain ⟨bz1a, bz1b⟩ := bz1
 have hw1 : IntKind.i64.wrap (2 * z1) = 2 * z1 := by rw [IntKind.wrap_i64]; omega
 have hv1 : IntKind.i64.wrap (2 * z1 - lv) = 2 * z1 - lv := by rw [IntKind.wrap_i64]; omega
 have HX2 := Lib.hid hx2
 have HZ2 := Lib.hid hz2
 obtain ⟨bz2a, bz2b⟩ := bz2
 have hw2 : IntKind.i64.wrap (2 * z2) = 2 * z2 := by rw [IntKind.wrap_i64]; omega
 have hv2 : IntKind.i64.wrap (2 * z2 - lv) = 2 * z2 - lv := by rw [IntKind.wrap_i64]; omega
 clear hx0 hx1 hx2 hz0 hz1 hz2
 have hix0 := fun W => run_ix0 (ta : Nat) (tb : Nat) (td : Nat) W
 have hix1 := fun W => run_ix1 (ta : Nat) (tb : Nat) (td : Nat) W
 have hix2 := fun W => run_ix2 (ta : Nat) (tb : Nat) (td : Nat) W
 go_enter Tryz.func72, Tryz.ntmps72
 go_upto_region 3 with fail
 replace S := ((S.alloc 74 [.int .i64 (ta : Nat), .int .i64 (tb : Nat), .int .i64 (td : Nat)]).alloc 82 [.bool false, .slice none 0 0, .bool false, .slice none 0 0, .bool false, .slice none 0 0, .bool false, .slice none 0 0, .bool false, .slice none 0 0, .bool false, .slice none 0 0])
 simp only [World.size_alloc] at S
 obtain ⟨W6, eW, S⟩ := S.pack
 rw [eW]
 clear eW
 generalize u.heap.size = P6 at *
 have r6_0 := S.c 1 0 rfl rfl
 have r6_1 := S.c 1 1 rfl rfl
 have r6_2 := S.c 1 2 rfl rfl
 go_wp2
 clear r6_0 r6_1 r6_2
 go_loopw [13, 8] (fun iv uv wr => (iv = .int .i64 0 ∧ uv = .int .i64 0 ∧ St w wr ((P6 + 1, 82, [.bool false, .slice none 0 0, .bool false, .slice none 0 0, .bool false, .slice none 0 0, .bool false, .slice none 0 0, .bool false, .slice none 0 0, .bool false, .slice none 0 0]) :: (P6, 74, [.int .i64 (ta : Nat), .int .i64 (tb : Nat), .int .i64 (td : Nat)]) :: (P9, 35, [.bool b8, .slice A8 n8 c8, .bool d8, .slice B8 m8 e8]) :: (w.heap.size + 1 + 1 + 1 + 1, 35, [.bool false, .slice none 0 0, .bool false, .slice none 0 0]) :: (w.heap.size + 1 + 1 + 1, 59, [.func (.func 43) #[] #[]]) :: (w.heap.size + 1 + 1, 58, [.func (.func 33) #[] #[]]) :: (w.heap.size + 1, 3, [.int .i64 lv]) :: (w.heap.size, 24, grL gx gy st gw gh (some ⟨bz, oz, none⟩) nz cz) :: bs) [fun w => RatRep w (.agg #[.bool b8, .slice A8 n8 c8, .bool d8, .slice B8 m8 e8]) su]) ∨ (iv = .int .i64 1 ∧ ∃ (up1 : Int) (v0 : Bool) (X0 : Option Addr) (N0 M0 : Nat) (u0 : Bool) (Y0 : Option Addr) (K0 L0 : Nat), uv = .int .i64 up1 ∧ Hid (up1 = posI x0) ∧ St w wr ((P6 + 1, 82, [.bool v0, .slice X0 N0 M0, .bool u0, .slice Y0 K0 L0, .bool false, .slice none 0 0, .bool false, .slice none 0 0, .bool false, .slice none 0 0, .bool false, .slice none 0 0]) :: (P6, 74, [.int .i64 (ta : Nat), .int .i64 (tb : Nat), .int .i64 (td : Nat)]) :: (P9, 35, [.bool b8, .slice A8 n8 c8, .bool d8, .slice B8 m8 e8]) :: (w.heap.size + 1 + 1 + 1 + 1, 35, [.bool false, .slice none 0 0, .bool false, .slice none 0 0]) :: (w.heap.size + 1 + 1 + 1, 59, [.func (.func 43) #[] #[]]) :: (w.heap.size + 1 + 1, 58, [.func (.func 33) #[] #[]]) :: (w.heap.size + 1, 3, [.int .i64 lv]) :: (w.heap.size, 24, grL gx gy st gw gh (some ⟨bz, oz, none⟩) nz cz) :: bs) [fun w => RatRep w (.agg #[.bool v0, .slice X0 N0 M0, .bool u0, .slice Y0 K0 L0]) x0, fun w => RatRep w (.agg #[.bool b8, .slice A8 n8 c8, .bool d8, .slice B8 m8 e8]) su]) ∨ (iv = .int .i64 2 ∧ ∃ (up2 : Int) (v0 : Bool) (X0 : Option Addr) (N0 M0 : Nat) (u0 : Bool) (Y0 : Option Addr) (K0 L0 : Nat) (v1 : Bool) (X1 : Option Addr) (N1 M1 : Nat) (u1 : Bool) (Y1 : Option Addr) (K1 L1 : Nat), uv = .int .i64 up2 ∧ Hid (up2 = posI x0 + posI x1) ∧ St w wr ((P6 + 1, 82, [.bool v0, .slice X0 N0 M0, .bool u0, .slice Y0 K0 L0, .bool v1, .slice X1 N1 M1, .bool u1, .slice Y1 K1 L1, .bool false, .slice none 0 0, .bool false, .slice none 0 0]) :: (P6, 74, [.int .i64 (ta : Nat), .int .i64 (tb : Nat), .int .i64 (td : Nat)]) :: (P9, 35, [.bool b8, .slice A8 n8 c8, .bool d8, .slice B8 m8 e8]) :: (w.heap.size + 1 + 1 + 1 + 1, 35, [.bool false, .slice none 0 0, .bool false, .slice none 0 0]) :: (w.heap.size + 1 + 1 + 1, 59, [.func (.func 43) #[] #[]]) :: (w.heap.size + 1 + 1, 58, [.func (.func 33) #[] #[]]) :: (w.heap.size + 1, 3, [.int .i64 lv]) :: (w.heap.size, 24, grL gx gy st gw gh (some ⟨bz, oz, none⟩) nz cz) :: bs) [fun w => RatRep w (.agg #[.bool v1, .slice X1 N1 M1, .bool u1, .slice Y1 K1 L1]) x1, fun w => RatRep w (.agg #[.bool v0, .slice X0 N0 M0, .bool u0, .slice Y0 K0 L0]) x0, fun w => RatRep w (.agg #[.bool b8, .slice A8 n8 c8, .bool d8, .slice B8 m8 e8]) su]) ∨ (iv = .int .i64 3 ∧ ∃ (up3 : Int) (v0 : Bool) (X0 : Option Addr) (N0 M0 : Nat) (u0 : Bool) (Y0 : Option Addr) (K0 L0 : Nat) (v1 : Bool) (X1 : Option Addr) (N1 M1 : Nat) (u1 : Bool) (Y1 : Option Addr) (K1 L1 : Nat) (v2 : Bool) (X2 : Option Addr) (N2 M2 : Nat) (u2 : Bool) (Y2 : Option Addr) (K2 L2 : Nat), uv = .int .i64 up3 ∧ Hid (up3 = posI x0 + posI x1 + posI x2) ∧ St w wr ((P6 + 1, 82, [.bool v0, .slice X0 N0 M0, .bool u0, .slice Y0 K0 L0, .bool v1, .slice X1 N1 M1, .bool u1, .slice Y1 K1 L1, .bool v2, .slice X2 N2 M2, .bool u2, .slice Y2 K2 L2]) :: (P6, 74, [.int .i64 (ta : Nat), .int .i64 (tb : Nat), .int .i64 (td : Nat)]) :: (P9, 35, [.bool b8, .slice A8 n8 c8, .bool d8, .slice B8 m8 e8]) :: (w.heap.size + 1 + 1 + 1 + 1, 35, [.bool false, .slice none 0 0, .bool false, .slice none 0 0]) :: (w.heap.size + 1 + 1 + 1, 59, [.func (.func 43) #[] #[]]) :: (w.heap.size + 1 + 1, 58, [.func (.func 33) #[] #[]]) :: (w.heap.size + 1, 3, [.int .i64 lv]) :: (w.heap.size, 24, grL gx gy st gw gh (some ⟨bz, oz, none⟩) nz cz) :: bs) [fun w => RatRep w (.agg #[.bool v2, .slice X2 N2 M2, .bool u2, .slice Y2 K2 L2]) x2, fun w => RatRep w (.agg #[.bool v1, .slice X1 N1 M1, .bool u1, .slice Y1 K1 L1]) x1, fun w => RatRep w (.agg #[.bool v0, .slice X0 N0 M0, .bool u0, .slice Y0 K0 L0]) x0, fun w => RatRep w (.agg #[.bool b8, .slice A8 n8 c8, .bool d8, .slice B8 m8 e8]) su])) (fun iv _ _ => 3 - (intOf iv).toNat)
 case atStart => exact .inl ⟨rfl, rfl, S⟩
 case round =>
  clear S
  rcases hrel with ⟨rfl, rfl, S⟩ | ⟨rfl, up1, v0, X0, N0, M0, u0, Y0, K0, L0, rfl, HP1, S⟩ | ⟨rfl, up2, v0, X0, N0, M0, u0, Y0, K0, L0, v1, X1, N1, M1, u1, Y1, K1, L1, rfl, HP2, S⟩ | ⟨rfl, up3, v0, X0, N0, M0, u0, Y0, K0, L0, v1, X1, N1, M1, u1, Y1, K1, L1, v2, X2, N2, M2, u2, Y2, K2, L2, rfl, HP3, S⟩
  ·skip
   obtain ⟨s1, hs1⟩ : ∃ s, x0.num.sign = s := ⟨_, rfl⟩
   have HS1 := Lib.hid hs1
   clear hs1
   go_upto_region 6 with fail
   refine wp_region_late 12 15 (m := 14) rfl (by kernel_rfl) (fun iF vF wF => (List.getD [ve (.int .i64 0), ve (.pointer (some ⟨w.heap.size, 5, none⟩)), ve (.slice (some ⟨bz, oz, none⟩) nz cz), ve (.int .i64 (ta : Nat)), ve (.pointer (some ⟨bz, oz + ta, none⟩)), ve (.int .i64 z0), ve (.int .i64 (2 * z0)), ve (.int .i64 lv), ve (.int .i64 ((2 * z0) - lv)), fun vF wF => TupQ (0) (x0) vF wF, fun vF wF => TupQ (0) (x0) vF wF, fun vF wF => FstQ (0) (x0) vF wF, ve (.int .i64 (0)), ve (.pointer (some ⟨P6 + 1, 0, none⟩))] iF (fun _ _ => True)) vF wF) [] (by simp) ?_ ?_ ?_ ?_
   ·intro i v w w' _ h hk
    refine stabL_get ?_ i v w w' h hk
    exact stab_cons st_e (stab_cons st_e (stab_cons st_e (stab_cons st_e (stab_cons st_e (stab_cons st_e (stab_cons st_e (stab_cons st_e (stab_cons st_e (stab_cons st_t (stab_cons st_t (stab_cons st_f (stab_cons st_e (stab_cons st_e stab_nil)))))))))))))
   ·intro i hi vs w3 hk3 hd
    have S3 := S.drew.below hk3
    have zc := HZ0.out _ S3.k
    obtain ⟨a0, a1, a2, a3, a4, a5⟩ := S3.cc6 7 rfl
    have a6 := S3.c 6 0 rfl rfl
    match i, hi with
    | 0, _ =>
     refine sv0 [] (ve (.int .i64 0)) rfl fun K hK => ?_; clear hd; simp only [frD] at hK ⊢; go_simp
     exact hK _ _ bl rfl
    | 1, _ =>
     refine sv0 [] (ve (.pointer (some ⟨w.heap.size, 5, none⟩))) rfl fun K hK => ?_; clear hd; simp only [frD] at hK ⊢; go_simp
     exact hK _ _ bl rfl
    | 2, _ =>
     have qe1 : (vs 1) = .pointer (some ⟨w.heap.size, 5, none⟩) := hdk hd 1
     refine sv0 [(1, some 19)] (ve (.slice (some ⟨bz, oz, none⟩) nz cz)) rfl fun K hK => ?_; clear hd; simp only [frD, qe1] at hK ⊢; go_simp
     exact hK _ _ bl rfl
    | 3, _ =>
     refine sv0 [] (ve (.int .i64 (ta : Nat))) rfl fun K hK => ?_; clear hd; simp only [frD] at hK ⊢; go_simp
     exact hK _ _ bl rfl
    | 4, _ =>
     have qe2 : (vs 2) = .slice (some ⟨bz, oz, none⟩) nz cz := hdk hd 2; have qe3 : (vs 3) = .int .i64 (ta : Nat) := hdk hd 3
     refine sv0 [(2, some 20), (3, some 21)] (ve (.pointer (some ⟨bz, oz + ta, none⟩))) rfl fun K hK => ?_; clear hd; simp only [frD, qe2, qe3] at hK ⊢; go_simp
     exact hK _ _ bl rfl
    | 5, _ =>
     have qe4 : (vs 4) = .pointer (some ⟨bz, oz + ta, none⟩) := hdk hd 4
     refine sv0 [(4, some 22)] (ve (.int .i64 z0)) rfl fun K hK => ?_; clear hd; simp only [frD, qe4] at hK ⊢; go_simp
     exact hK _ _ bl rfl
    | 6, _ =>
     have qe5 : (vs 5) = .int .i64 z0 := hdk hd 5
     refine sv0 [(5, some 23)] (ve (.int .i64 (2 * z0))) rfl fun K hK => ?_; clear hd; simp only [frD, qe5] at hK ⊢; go_simp
     exact hK _ _ bl rfl
    | 7, _ =>
     refine sv0 [] (ve (.int .i64 lv)) rfl fun K hK => ?_; clear hd; simp only [frD] at hK ⊢; go_simp
     exact hK _ _ bl rfl
    | 8, _ =>
     have qe6 : (vs 6) = .int .i64 (2 * z0) := hdk hd 6; have qe7 : (vs 7) = .int .i64 lv := hdk hd 7
     refine sv0 [(6, some 24), (7, some 25)] (ve (.int .i64 ((2 * z0) - lv))) rfl fun K hK => ?_; clear hd; simp only [frD, qe6, qe7] at hK ⊢; go_simp
     exact hK _ _ bl rfl
    | 9, _ =>
     have qe8 : (vs 8) = .int .i64 ((2 * z0) - lv) := hdk hd 8
     refine sc (A := #[(vs 8), .int .i64 2]) (B := #[.int .i64 ((2 * z0) - lv), .int .i64 2]) [(8, some 26)] (fun vF wF => TupQ (0) (x0) vF wF) rfl (wanted_none rfl) (by rw [qe8]) Tryz.func73 ?_
     refine ((rcode_eq (c' := 0) (fof_num (2 * z0 - lv) 2 (by omega) (by omega) (by omega) (by omega)) (by decide) HX0.out)).mono ?_; rintro e w4 ⟨U, rfl, hr, hk4⟩; exact ⟨_, rfl, hk4, ⟨U, rfl, hr⟩⟩
    | 10, _ =>
     have h9 : TupQ (0) (x0) (vs 9) w3 := hdk hd 9; obtain ⟨Q9, q9, hQ9⟩ := h9
     refine sv0 [(9, some 27)] (fun vF wF => TupQ (0) (x0) vF wF) rfl fun K hK => ?_; clear hd; simp only [frD, q9] at hK ⊢; go_simp
     exact hK _ _ bl ⟨Q9, rfl, hQ9⟩
    | 11, _ =>
     have h10 : TupQ (0) (x0) (vs 10) w3 := hdk hd 10; obtain ⟨Q9, q9, hQ9⟩ := h10
     refine sv0 [(10, some 17)] (fun vF wF => FstQ (0) (x0) vF wF) rfl fun K hK => ?_; clear hd; simp only [frD, q9] at hK ⊢; go_simp
     exact hK _ _ bl hQ9
    | 12, _ =>
     have h10 : TupQ (0) (x0) (vs 10) w3 := hdk hd 10; obtain ⟨Q9, q9, hQ9⟩ := h10
     refine sv0 [(10, some 17)] (ve (.int .i64 (0))) rfl fun K hK => ?_; clear hd; simp only [frD, q9] at hK ⊢; go_simp
     exact hK _ _ bl rfl
    | 13, _ =>
     have qe0 : (vs 0) = .int .i64 0 := hdk hd 0; have qe1 : (vs 1) = .pointer (some ⟨w.heap.size, 5, none⟩) := hdk hd 1; have qe2 : (vs 2) = .slice (some ⟨bz, oz, none⟩) nz cz := hdk hd 2; have qe3 : (vs 3) = .int .i64 (ta : Nat) := hdk hd 3; have qe4 : (vs 4) = .pointer (some ⟨bz, oz + ta, none⟩) := hdk hd 4; have qe5 : (vs 5) = .int .i64 z0 := hdk hd 5; have qe6 : (vs 6) = .int .i64 (2 * z0) := hdk hd 6; have qe7 : (vs 7) = .int .i64 lv := hdk hd 7; have qe8 : (vs 8) = .int .i64 ((2 * z0) - lv) := hdk hd 8; have h9 : TupQ (0) (x0) (vs 9) w3 := hdk hd 9; have h10 : TupQ (0) (x0) (vs 10) w3 := hdk hd 10; have h11 : FstQ (0) (x0) (vs 11) w3 := hdk hd 11
     exact step_ixa (X := .pointer (some ⟨P6 + 1, 0, none⟩)) (Y := .int .i64 0) [(0, some 18), (1, some 19), (2, some 20), (3, some 21), (4, some 22), (5, some 23), (6, some 24), (7, some 25), (8, some 26), (9, some 27), (10, some 17), (11, some 28)] (ve (.pointer (some ⟨P6 + 1, 0, none⟩))) rfl (by kernel_rfl) rfl (fun _ _ h => h) rfl rfl (by kernel_rfl) (Eq.trans (b := vs 0) (by kernel_rfl) qe0) (by kernel_rfl) rfl
    | i + 14, hi => exact absurd hi (by omega)
   ·intro vs w3 hk3 hd
    have h10 : TupQ (0) (x0) (vs 10) w3 := hdk hd 10; obtain ⟨Q9, q9, hQ9⟩ := h10
    refine pure_at (v := .int .i64 0) [(10, some 17)] rfl (by kernel_rfl) (by exact rfl) fun w4 K hK => ?_; simp only [frD, q9] at hK ⊢; refine ⟨by rfl, ?_⟩; go_simp; exact hK
   ·intro vs W41 hk3 hΦ _
    simp only [List.drop_succ_cons, List.drop_zero]
    rw [fr_frD, show (List.range 14).map _ = [(0, some 18), (1, some 19), (2, some 20), (3, some 21), (4, some 22), (5, some 23), (6, some 24), (7, some 25), (8, some 26), (9, some 27), (10, some 17), (11, some 28), (12, some 29), (13, some 30)] by kernel_rfl]
    have pb0 : (vs 0) = .int .i64 0 := hΦ 0 (by decide)
    have pb1 : (vs 1) = .pointer (some ⟨w.heap.size, 5, none⟩) := hΦ 1 (by decide)
    have pb2 : (vs 2) = .slice (some ⟨bz, oz, none⟩) nz cz := hΦ 2 (by decide)
    have pb3 : (vs 3) = .int .i64 (ta : Nat) := hΦ 3 (by decide)
    have pb4 : (vs 4) = .pointer (some ⟨bz, oz + ta, none⟩) := hΦ 4 (by decide)
    have pb5 : (vs 5) = .int .i64 z0 := hΦ 5 (by decide)
    have pb6 : (vs 6) = .int .i64 (2 * z0) := hΦ 6 (by decide)
    have pb7 : (vs 7) = .int .i64 lv := hΦ 7 (by decide)
    have pb8 : (vs 8) = .int .i64 ((2 * z0) - lv) := hΦ 8 (by decide)
    have pb9 : TupQ (0) (x0) (vs 9) W41 := hΦ 9 (by decide)
    have pb10 : TupQ (0) (x0) (vs 10) W41 := hΦ 10 (by decide)
    have pb11 : FstQ (0) (x0) (vs 11) W41 := hΦ 11 (by decide)
    have pb12 : (vs 12) = .int .i64 (0) := hΦ 12 (by decide)
    have pb13 : (vs 13) = .pointer (some ⟨P6 + 1, 0, none⟩) := hΦ 13 (by decide)
    clear hΦ
    simp only [frD, pb0, pb1, pb2, pb3, pb4, pb5, pb6, pb7, pb8, pb12, pb13]
    simp only [Act.put, List.setIfInBounds_toArray, List.set_cons_zero, List.set_cons_succ]
    clear pb0 pb1 pb2 pb3 pb4 pb5 pb6 pb7 pb8 pb12 pb13
    generalize vs 9 = Upb9 at pb9 ⊢
    generalize vs 10 = Upb10 at pb10 ⊢
    generalize vs 11 = Upb11 at pb11 ⊢
    replace S := S.drew.below hk3
    clear pb9
    clear pb10
    have hp := FstQ.rep pb11
    obtain ⟨b43, A43, n43, c43, d43, B43, m43, e43, rfl⟩ := hp.open_
    replace S := S.addQ hp
    clear hp pb11
    clear hk3
    have r7_0 := S.c 0 0 rfl rfl
    have f7_0 := S.f 0 0 rfl
    have r7_1 := S.c 0 1 rfl rfl
    have f7_1 := S.f 0 1 rfl
    have r7_2 := S.c 0 2 rfl rfl
    have f7_2 := S.f 0 2 rfl
    have r7_3 := S.c 0 3 rfl rfl
    have f7_3 := S.f 0 3 rfl
    have r7_4 := S.c 0 4 rfl rfl
    have f7_4 := S.f 0 4 rfl
    have r7_5 := S.c 0 5 rfl rfl
    have f7_5 := S.f 0 5 rfl
    have r7_6 := S.c 0 6 rfl rfl
    have f7_6 := S.f 0 6 rfl
    have r7_7 := S.c 0 7 rfl rfl
    have f7_7 := S.f 0 7 rfl
    have r7_8 := S.c 0 8 rfl rfl
    have f7_8 := S.f 0 8 rfl
    have r7_9 := S.c 0 9 rfl rfl
    have f7_9 := S.f 0 9 rfl
    have r7_10 := S.c 0 10 rfl rfl
    have f7_10 := S.f 0 10 rfl
    have r7_11 := S.c 0 11 rfl rfl
    have f7_11 := S.f 0 11 rfl
    go_upto_region 7 with fail
    replace S := ((((S.put 0 0 rfl rfl (.bool b43)).put 0 1 rfl rfl (.slice A43 n43 c43)).put 0 2 rfl rfl (.bool d43)).put 0 3 rfl rfl (.slice B43 m43 e43))
    obtain ⟨W42, eW, S⟩ := S.pack
    rw [eW]
    clear eW
    clear r7_0 f7_0 r7_1 f7_1 r7_2 f7_2 r7_3 f7_3 r7_4 f7_4 r7_5 f7_5 r7_6 f7_6 r7_7 f7_7 r7_8 f7_8 r7_9 f7_9 r7_10 f7_10 r7_11 f7_11
    have r7_0 := S.c 0 0 rfl rfl
    have r7_1 := S.c 0 1 rfl rfl
    have r7_2 := S.c 0 2 rfl rfl
    have r7_3 := S.c 0 3 rfl rfl
    have r7_4 := S.c 0 4 rfl rfl
    have r7_5 := S.c 0 5 rfl rfl
    have r7_6 := S.c 0 6 rfl rfl
    have r7_7 := S.c 0 7 rfl rfl
    have r7_8 := S.c 0 8 rfl rfl
    have r7_9 := S.c 0 9 rfl rfl
    have r7_10 := S.c 0 10 rfl rfl
    have r7_11 := S.c 0 11 rfl rfl
    go_wp2_with fail
    refine ((fsign_s ((S.qi 0 rfl).num (by omega)) HS1.out)).mono ?_
    rintro e W43 ⟨rfl, hk⟩
    replace S := S.below hk
    clear hk
    clear r7_0 r7_1 r7_2 r7_3 r7_4 r7_5 r7_6 r7_7 r7_8 r7_9 r7_10 r7_11
    rcases Bool.eq_false_or_eq_true (decide (0 < s1)) with t1 | t1
    ·skip
     go_wp2
     go_roundw
     case rel => exact .inr (.inl ⟨by first | rfl | go_num, _, _, _, _, _, _, _, _, _, by first | rfl | go_num, Lib.hid (by rw [pos_T HS1.out t1]), S⟩)
     case measure => simp [intOf]
    ·skip
     go_wp2
     go_roundw
     case rel => exact .inr (.inl ⟨by first | rfl | go_num, _, _, _, _, _, _, _, _, _, by first | rfl | go_num, Lib.hid (by rw [pos_F HS1.out t1]), S⟩)
     case measure => simp [intOf]
  ·have hup := posI_1 HP1.out
   obtain ⟨hup1, hup2⟩ := hup
   obtain ⟨s1, hs1⟩ : ∃ s, x1.num.sign = s := ⟨_, rfl⟩
   have HS1 := Lib.hid hs1
   clear hs1
   go_upto_region 6 with fail
   refine wp_region_late 12 15 (m := 14) rfl (by kernel_rfl) (fun iF vF wF => (List.getD [ve (.int .i64 1), ve (.pointer (some ⟨w.heap.size, 5, none⟩)), ve (.slice (some ⟨bz, oz, none⟩) nz cz), ve (.int .i64 (tb : Nat)), ve (.pointer (some ⟨bz, oz + tb, none⟩)), ve (.int .i64 z1), ve (.int .i64 (2 * z1)), ve (.int .i64 lv), ve (.int .i64 ((2 * z1) - lv)), fun vF wF => TupQ (0) (x1) vF wF, fun vF wF => TupQ (0) (x1) vF wF, fun vF wF => FstQ (0) (x1) vF wF, ve (.int .i64 (0)), ve (.pointer (some ⟨P6 + 1, 4, none⟩))] iF (fun _ _ => True)) vF wF) [] (by simp) ?_ ?_ ?_ ?_
   ·intro i v w w' _ h hk
    refine stabL_get ?_ i v w w' h hk
    exact stab_cons st_e (stab_cons st_e (stab_cons st_e (stab_cons st_e (stab_cons st_e (stab_cons st_e (stab_cons st_e (stab_cons st_e (stab_cons st_e (stab_cons st_t (stab_cons st_t (stab_cons st_f (stab_cons st_e (stab_cons st_e stab_nil)))))))))))))
   ·intro i hi vs w3 hk3 hd
    have S3 := S.drew.below hk3
    have zc := HZ1.out _ S3.k
    obtain ⟨a0, a1, a2, a3, a4, a5⟩ := S3.cc6 7 rfl
    have a6 := S3.c 6 0 rfl rfl
    match i, hi with
    | 0, _ =>
     refine sv0 [] (ve (.int .i64 1)) rfl fun K hK => ?_; clear hd; simp only [frD] at hK ⊢; go_simp
     exact hK _ _ bl rfl
    | 1, _ =>
     refine sv0 [] (ve (.pointer (some ⟨w.heap.size, 5, none⟩))) rfl fun K hK => ?_; clear hd; simp only [frD] at hK ⊢; go_simp
     exact hK _ _ bl rfl
    | 2, _ =>
     have qe1 : (vs 1) = .pointer (some ⟨w.heap.size, 5, none⟩) := hdk hd 1
     refine sv0 [(1, some 19)] (ve (.slice (some ⟨bz, oz, none⟩) nz cz)) rfl fun K hK => ?_; clear hd; simp only [frD, qe1] at hK ⊢; go_simp
     exact hK _ _ bl rfl
    | 3, _ =>
     refine sv0 [] (ve (.int .i64 (tb : Nat))) rfl fun K hK => ?_; clear hd; simp only [frD] at hK ⊢; go_simp
     exact hK _ _ bl rfl
    | 4, _ =>
     have qe2 : (vs 2) = .slice (some ⟨bz, oz, none⟩) nz cz := hdk hd 2; have qe3 : (vs 3) = .int .i64 (tb : Nat) := hdk hd 3
     refine sv0 [(2, some 20), (3, some 21)] (ve (.pointer (some ⟨bz, oz + tb, none⟩))) rfl fun K hK => ?_; clear hd; simp only [frD, qe2, qe3] at hK ⊢; go_simp
     exact hK _ _ bl rfl
    | 5, _ =>
     have qe4 : (vs 4) = .pointer (some ⟨bz, oz + tb, none⟩) := hdk hd 4
     refine sv0 [(4, some 22)] (ve (.int .i64 z1)) rfl fun K hK => ?_; clear hd; simp only [frD, qe4] at hK ⊢; go_simp
     exact hK _ _ bl rfl
    | 6, _ =>
     have qe5 : (vs 5) = .int .i64 z1 := hdk hd 5
     refine sv0 [(5, some 23)] (ve (.int .i64 (2 * z1))) rfl fun K hK => ?_; clear hd; simp only [frD, qe5] at hK ⊢; go_simp
     exact hK _ _ bl rfl
    | 7, _ =>
     refine sv0 [] (ve (.int .i64 lv)) rfl fun K hK => ?_; clear hd; simp only [frD] at hK ⊢; go_simp
     exact hK _ _ bl rfl
    | 8, _ =>
     have qe6 : (vs 6) = .int .i64 (2 * z1) := hdk hd 6; have qe7 : (vs 7) = .int .i64 lv := hdk hd 7
     refine sv0 [(6, some 24), (7, some 25)] (ve (.int .i64 ((2 * z1) - lv))) rfl fun K hK => ?_; clear hd; simp only [frD, qe6, qe7] at hK ⊢; go_simp
     exact hK _ _ bl rfl
    | 9, _ =>
     have qe8 : (vs 8) = .int .i64 ((2 * z1) - lv) := hdk hd 8
     refine sc (A := #[(vs 8), .int .i64 2]) (B := #[.int .i64 ((2 * z1) - lv), .int .i64 2]) [(8, some 26)] (fun vF wF => TupQ (0) (x1) vF wF) rfl (wanted_none rfl) (by rw [qe8]) Tryz.func73 ?_
     refine ((rcode_eq (c' := 0) (fof_num (2 * z1 - lv) 2 (by omega) (by omega) (by omega) (by omega)) (by decide) HX1.out)).mono ?_; rintro e w4 ⟨U, rfl, hr, hk4⟩; exact ⟨_, rfl, hk4, ⟨U, rfl, hr⟩⟩
    | 10, _ =>
     have h9 : TupQ (0) (x1) (vs 9) w3 := hdk hd 9; obtain ⟨Q9, q9, hQ9⟩ := h9
     refine sv0 [(9, some 27)] (fun vF wF => TupQ (0) (x1) vF wF) rfl fun K hK => ?_; clear hd; simp only [frD, q9] at hK ⊢; go_simp
     exact hK _ _ bl ⟨Q9, rfl, hQ9⟩
    | 11, _ =>
     have h10 : TupQ (0) (x1) (vs 10) w3 := hdk hd 10; obtain ⟨Q9, q9, hQ9⟩ := h10
     refine sv0 [(10, some 17)] (fun vF wF => FstQ (0) (x1) vF wF) rfl fun K hK => ?_; clear hd; simp only [frD, q9] at hK ⊢; go_simp
     exact hK _ _ bl hQ9
    | 12, _ =>
     have h10 : TupQ (0) (x1) (vs 10) w3 := hdk hd 10; obtain ⟨Q9, q9, hQ9⟩ := h10
     refine sv0 [(10, some 17)] (ve (.int .i64 (0))) rfl fun K hK => ?_; clear hd; simp only [frD, q9] at hK ⊢; go_simp
     exact hK _ _ bl rfl
    | 13, _ =>
     have qe0 : (vs 0) = .int .i64 1 := hdk hd 0; have qe1 : (vs 1) = .pointer (some ⟨w.heap.size, 5, none⟩) := hdk hd 1; have qe2 : (vs 2) = .slice (some ⟨bz, oz, none⟩) nz cz := hdk hd 2; have qe3 : (vs 3) = .int .i64 (tb : Nat) := hdk hd 3; have qe4 : (vs 4) = .pointer (some ⟨bz, oz + tb, none⟩) := hdk hd 4; have qe5 : (vs 5) = .int .i64 z1 := hdk hd 5; have qe6 : (vs 6) = .int .i64 (2 * z1) := hdk hd 6; have qe7 : (vs 7) = .int .i64 lv := hdk hd 7; have qe8 : (vs 8) = .int .i64 ((2 * z1) - lv) := hdk hd 8; have h9 : TupQ (0) (x1) (vs 9) w3 := hdk hd 9; have h10 : TupQ (0) (x1) (vs 10) w3 := hdk hd 10; have h11 : FstQ (0) (x1) (vs 11) w3 := hdk hd 11
     exact step_ixa (X := .pointer (some ⟨P6 + 1, 0, none⟩)) (Y := .int .i64 1) [(0, some 18), (1, some 19), (2, some 20), (3, some 21), (4, some 22), (5, some 23), (6, some 24), (7, some 25), (8, some 26), (9, some 27), (10, some 17), (11, some 28)] (ve (.pointer (some ⟨P6 + 1, 4, none⟩))) rfl (by kernel_rfl) rfl (fun _ _ h => h) rfl rfl (by kernel_rfl) (Eq.trans (b := vs 0) (by kernel_rfl) qe0) (by kernel_rfl) rfl
    | i + 14, hi => exact absurd hi (by omega)
   ·intro vs w3 hk3 hd
    have h10 : TupQ (0) (x1) (vs 10) w3 := hdk hd 10; obtain ⟨Q9, q9, hQ9⟩ := h10
    refine pure_at (v := .int .i64 0) [(10, some 17)] rfl (by kernel_rfl) (by exact rfl) fun w4 K hK => ?_; simp only [frD, q9] at hK ⊢; refine ⟨by rfl, ?_⟩; go_simp; exact hK
   ·intro vs W41 hk3 hΦ _
    simp only [List.drop_succ_cons, List.drop_zero]
    rw [fr_frD, show (List.range 14).map _ = [(0, some 18), (1, some 19), (2, some 20), (3, some 21), (4, some 22), (5, some 23), (6, some 24), (7, some 25), (8, some 26), (9, some 27), (10, some 17), (11, some 28), (12, some 29), (13, some 30)] by kernel_rfl]
    have pc0 : (vs 0) = .int .i64 1 := hΦ 0 (by decide)
    have pc1 : (vs 1) = .pointer (some ⟨w.heap.size, 5, none⟩) := hΦ 1 (by decide)
    have pc2 : (vs 2) = .slice (some ⟨bz, oz, none⟩) nz cz := hΦ 2 (by decide)
    have pc3 : (vs 3) = .int .i64 (tb : Nat) := hΦ 3 (by decide)
    have pc4 : (vs 4) = .pointer (some ⟨bz, oz + tb, none⟩) := hΦ 4 (by decide)
    have pc5 : (vs 5) = .int .i64 z1 := hΦ 5 (by decide)
    have pc6 : (vs 6) = .int .i64 (2 * z1) := hΦ 6 (by decide)
    have pc7 : (vs 7) = .int .i64 lv := hΦ 7 (by decide)
    have pc8 : (vs 8) = .int .i64 ((2 * z1) - lv) := hΦ 8 (by decide)
    have pc9 : TupQ (0) (x1) (vs 9) W41 := hΦ 9 (by decide)
    have pc10 : TupQ (0) (x1) (vs 10) W41 := hΦ 10 (by decide)
    have pc11 : FstQ (0) (x1) (vs 11) W41 := hΦ 11 (by decide)
    have pc12 : (vs 12) = .int .i64 (0) := hΦ 12 (by decide)
    have pc13 : (vs 13) = .pointer (some ⟨P6 + 1, 4, none⟩) := hΦ 13 (by decide)
    clear hΦ
    simp only [frD, pc0, pc1, pc2, pc3, pc4, pc5, pc6, pc7, pc8, pc12, pc13]
    simp only [Act.put, List.setIfInBounds_toArray, List.set_cons_zero, List.set_cons_succ]
    clear pc0 pc1 pc2 pc3 pc4 pc5 pc6 pc7 pc8 pc12 pc13
    generalize vs 9 = Upc9 at pc9 ⊢
    generalize vs 10 = Upc10 at pc10 ⊢
    generalize vs 11 = Upc11 at pc11 ⊢
    replace S := S.drew.below hk3
    clear pc9
    clear pc10
    have hp := FstQ.rep pc11
    obtain ⟨b43, A43, n43, c43, d43, B43, m43, e43, rfl⟩ := hp.open_
    replace S := S.addQ hp
    clear hp pc11
    clear hk3
    have r7_0 := S.c 0 0 rfl rfl
    have f7_0 := S.f 0 0 rfl
    have r7_1 := S.c 0 1 rfl rfl
    have f7_1 := S.f 0 1 rfl
    have r7_2 := S.c 0 2 rfl rfl
    have f7_2 := S.f 0 2 rfl
    have r7_3 := S.c 0 3 rfl rfl
    have f7_3 := S.f 0 3 rfl
    have r7_4 := S.c 0 4 rfl rfl
    have f7_4 := S.f 0 4 rfl
    have r7_5 := S.c 0 5 rfl rfl
    have f7_5 := S.f 0 5 rfl
    have r7_6 := S.c 0 6 rfl rfl
    have f7_6 := S.f 0 6 rfl
    have r7_7 := S.c 0 7 rfl rfl
    have f7_7 := S.f 0 7 rfl
    have r7_8 := S.c 0 8 rfl rfl
    have f7_8 := S.f 0 8 rfl
    have r7_9 := S.c 0 9 rfl rfl
    have f7_9 := S.f 0 9 rfl
    have r7_10 := S.c 0 10 rfl rfl
    have f7_10 := S.f 0 10 rfl
    have r7_11 := S.c 0 11 rfl rfl
    have f7_11 := S.f 0 11 rfl
    go_upto_region 7 with fail
    replace S := ((((S.put 0 4 rfl rfl (.bool b43)).put 0 5 rfl rfl (.slice A43 n43 c43)).put 0 6 rfl rfl (.bool d43)).put 0 7 rfl rfl (.slice B43 m43 e43))
    obtain ⟨W42, eW, S⟩ := S.pack
    rw [eW]
    clear eW
    clear r7_0 f7_0 r7_1 f7_1 r7_2 f7_2 r7_3 f7_3 r7_4 f7_4 r7_5 f7_5 r7_6 f7_6 r7_7 f7_7 r7_8 f7_8 r7_9 f7_9 r7_10 f7_10 r7_11 f7_11
    have r7_0 := S.c 0 0 rfl rfl
    have r7_1 := S.c 0 1 rfl rfl
    have r7_2 := S.c 0 2 rfl rfl
    have r7_3 := S.c 0 3 rfl rfl
    have r7_4 := S.c 0 4 rfl rfl
    have r7_5 := S.c 0 5 rfl rfl
    have r7_6 := S.c 0 6 rfl rfl
    have r7_7 := S.c 0 7 rfl rfl
    have r7_8 := S.c 0 8 rfl rfl
    have r7_9 := S.c 0 9 rfl rfl
    have r7_10 := S.c 0 10 rfl rfl
    have r7_11 := S.c 0 11 rfl rfl
    go_wp2_with fail
    refine ((fsign_s ((S.qi 0 rfl).num (by omega)) HS1.out)).mono ?_
    rintro e W43 ⟨rfl, hk⟩
    replace S := S.below hk
    clear hk
    clear r7_0 r7_1 r7_2 r7_3 r7_4 r7_5 r7_6 r7_7 r7_8 r7_9 r7_10 r7_11
    rcases Bool.eq_false_or_eq_true (decide (0 < s1)) with t1 | t1
    ·skip
     go_wp2
     go_roundw
     case rel => exact .inr (.inr (.inl ⟨by first | rfl | go_num, _, _, _, _, _, _, _, _, _, _, _, _, _, _, _, _, _, by first | rfl | go_num, Lib.hid (by have h1 := HP1.out; have h2 := pos_T HS1.out t1; omega), S⟩))
     case measure => simp [intOf]
    ·skip
     go_wp2
     go_roundw
     case rel => exact .inr (.inr (.inl ⟨by first | rfl | go_num, _, _, _, _, _, _, _, _, _, _, _, _, _, _, _, _, _, by first | rfl | go_num, Lib.hid (by have h1 := HP1.out; have h2 := pos_F HS1.out t1; omega), S⟩))
     case measure => simp [intOf]
  ·have hup := posI_2 HP2.out
   obtain ⟨hup1, hup2⟩ := hup
   obtain ⟨s1, hs1⟩ : ∃ s, x2.num.sign = s := ⟨_, rfl⟩
   have HS1 := Lib.hid hs1
   clear hs1
   go_upto_region 6 with fail
   refine wp_region_late 12 15 (m := 14) rfl (by kernel_rfl) (fun iF vF wF => (List.getD [ve (.int .i64 2), ve (.pointer (some ⟨w.heap.size, 5, none⟩)), ve (.slice (some ⟨bz, oz, none⟩) nz cz), ve (.int .i64 (td : Nat)), ve (.pointer (some ⟨bz, oz + td, none⟩)), ve (.int .i64 z2), ve (.int .i64 (2 * z2)), ve (.int .i64 lv), ve (.int .i64 ((2 * z2) - lv)), fun vF wF => TupQ (0) (x2) vF wF, fun vF wF => TupQ (0) (x2) vF wF, fun vF wF => FstQ (0) (x2) vF wF, ve (.int .i64 (0)), ve (.pointer (some ⟨P6 + 1, 8, none⟩))] iF (fun _ _ => True)) vF wF) [] (by simp) ?_ ?_ ?_ ?_
   ·intro i v w w' _ h hk
    refine stabL_get ?_ i v w w' h hk
    exact stab_cons st_e (stab_cons st_e (stab_cons st_e (stab_cons st_e (stab_cons st_e (stab_cons st_e (stab_cons st_e (stab_cons st_e (stab_cons st_e (stab_cons st_t (stab_cons st_t (stab_cons st_f (stab_cons st_e (stab_cons st_e stab_nil)))))))))))))
   ·intro i hi vs w3 hk3 hd
    have S3 := S.drew.below hk3
    have zc := HZ2.out _ S3.k
    obtain ⟨a0, a1, a2, a3, a4, a5⟩ := S3.cc6 7 rfl
    have a6 := S3.c 6 0 rfl rfl
    match i, hi with
    | 0, _ =>
     refine sv0 [] (ve (.int .i64 2)) rfl fun K hK => ?_; clear hd; simp only [frD] at hK ⊢; go_simp
     exact hK _ _ bl rfl
    | 1, _ =>
     refine sv0 [] (ve (.pointer (some ⟨w.heap.size, 5, none⟩))) rfl fun K hK => ?_; clear hd; simp only [frD] at hK ⊢; go_simp
     exact hK _ _ bl rfl
    | 2, _ =>
     have qe1 : (vs 1) = .pointer (some ⟨w.heap.size, 5, none⟩) := hdk hd 1
     refine sv0 [(1, some 19)] (ve (.slice (some ⟨bz, oz, none⟩) nz cz)) rfl fun K hK => ?_; clear hd; simp only [frD, qe1] at hK ⊢; go_simp
     exact hK _ _ bl rfl
    | 3, _ =>
     refine sv0 [] (ve (.int .i64 (td : Nat))) rfl fun K hK => ?_; clear hd; simp only [frD] at hK ⊢; go_simp
     exact hK _ _ bl rfl
    | 4, _ =>
     have qe2 : (vs 2) = .slice (some ⟨bz, oz, none⟩) nz cz := hdk hd 2; have qe3 : (vs 3) = .int .i64 (td : Nat) := hdk hd 3
     refine sv0 [(2, some 20), (3, some 21)] (ve (.pointer (some ⟨bz, oz + td, none⟩))) rfl fun K hK => ?_; clear hd; simp only [frD, qe2, qe3] at hK ⊢; go_simp
     exact hK _ _ bl rfl
    | 5, _ =>
     have qe4 : (vs 4) = .pointer (some ⟨bz, oz + td, none⟩) := hdk hd 4
     refine sv0 [(4, some 22)] (ve (.int .i64 z2)) rfl fun K hK => ?_; clear hd; simp only [frD, qe4] at hK ⊢; go_simp
     exact hK _ _ bl rfl
    | 6, _ =>
     have qe5 : (vs 5) = .int .i64 z2 := hdk hd 5
     refine sv0 [(5, some 23)] (ve (.int .i64 (2 * z2))) rfl fun K hK => ?_; clear hd; simp only [frD, qe5] at hK ⊢; go_simp
     exact hK _ _ bl rfl
    | 7, _ =>
     refine sv0 [] (ve (.int .i64 lv)) rfl fun K hK => ?_; clear hd; simp only [frD] at hK ⊢; go_simp
     exact hK _ _ bl rfl
    | 8, _ =>
     have qe6 : (vs 6) = .int .i64 (2 * z2) := hdk hd 6; have qe7 : (vs 7) = .int .i64 lv := hdk hd 7
     refine sv0 [(6, some 24), (7, some 25)] (ve (.int .i64 ((2 * z2) - lv))) rfl fun K hK => ?_; clear hd; simp only [frD, qe6, qe7] at hK ⊢; go_simp
     exact hK _ _ bl rfl
    | 9, _ =>
     have qe8 : (vs 8) = .int .i64 ((2 * z2) - lv) := hdk hd 8
     refine sc (A := #[(vs 8), .int .i64 2]) (B := #[.int .i64 ((2 * z2) - lv), .int .i64 2]) [(8, some 26)] (fun vF wF => TupQ (0) (x2) vF wF) rfl (wanted_none rfl) (by rw [qe8]) Tryz.func73 ?_
     refine ((rcode_eq (c' := 0) (fof_num (2 * z2 - lv) 2 (by omega) (by omega) (by omega) (by omega)) (by decide) HX2.out)).mono ?_; rintro e w4 ⟨U, rfl, hr, hk4⟩; exact ⟨_, rfl, hk4, ⟨U, rfl, hr⟩⟩
    | 10, _ =>
     have h9 : TupQ (0) (x2) (vs 9) w3 := hdk hd 9; obtain ⟨Q9, q9, hQ9⟩ := h9
     refine sv0 [(9, some 27)] (fun vF wF => TupQ (0) (x2) vF wF) rfl fun K hK => ?_; clear hd; simp only [frD, q9] at hK ⊢; go_simp
     exact hK _ _ bl ⟨Q9, rfl, hQ9⟩
    | 11, _ =>
     have h10 : TupQ (0) (x2) (vs 10) w3 := hdk hd 10; obtain ⟨Q9, q9, hQ9⟩ := h10
     refine sv0 [(10, some 17)] (fun vF wF => FstQ (0) (x2) vF wF) rfl fun K hK => ?_; clear hd; simp only [frD, q9] at hK ⊢; go_simp
     exact hK _ _ bl hQ9
    | 12, _ =>
     have h10 : TupQ (0) (x2) (vs 10) w3 := hdk hd 10; obtain ⟨Q9, q9, hQ9⟩ := h10
     refine sv0 [(10, some 17)] (ve (.int .i64 (0))) rfl fun K hK => ?_; clear hd; simp only [frD, q9] at hK ⊢; go_simp
     exact hK _ _ bl rfl
    | 13, _ =>
     have qe0 : (vs 0) = .int .i64 2 := hdk hd 0; have qe1 : (vs 1) = .pointer (some ⟨w.heap.size, 5, none⟩) := hdk hd 1; have qe2 : (vs 2) = .slice (some ⟨bz, oz, none⟩) nz cz := hdk hd 2; have qe3 : (vs 3) = .int .i64 (td : Nat) := hdk hd 3; have qe4 : (vs 4) = .pointer (some ⟨bz, oz + td, none⟩) := hdk hd 4; have qe5 : (vs 5) = .int .i64 z2 := hdk hd 5; have qe6 : (vs 6) = .int .i64 (2 * z2) := hdk hd 6; have qe7 : (vs 7) = .int .i64 lv := hdk hd 7; have qe8 : (vs 8) = .int .i64 ((2 * z2) - lv) := hdk hd 8; have h9 : TupQ (0) (x2) (vs 9) w3 := hdk hd 9; have h10 : TupQ (0) (x2) (vs 10) w3 := hdk hd 10; have h11 : FstQ (0) (x2) (vs 11) w3 := hdk hd 11
     exact step_ixa (X := .pointer (some ⟨P6 + 1, 0, none⟩)) (Y := .int .i64 2) [(0, some 18), (1, some 19), (2, some 20), (3, some 21), (4, some 22), (5, some 23), (6, some 24), (7, some 25), (8, some 26), (9, some 27), (10, some 17), (11, some 28)] (ve (.pointer (some ⟨P6 + 1, 8, none⟩))) rfl (by kernel_rfl) rfl (fun _ _ h => h) rfl rfl (by kernel_rfl) (Eq.trans (b := vs 0) (by kernel_rfl) qe0) (by kernel_rfl) rfl
    | i + 14, hi => exact absurd hi (by omega)
   ·intro vs w3 hk3 hd
    have h10 : TupQ (0) (x2) (vs 10) w3 := hdk hd 10; obtain ⟨Q9, q9, hQ9⟩ := h10
    refine pure_at (v := .int .i64 0) [(10, some 17)] rfl (by kernel_rfl) (by exact rfl) fun w4 K hK => ?_; simp only [frD, q9] at hK ⊢; refine ⟨by rfl, ?_⟩; go_simp; exact hK
   ·intro vs W41 hk3 hΦ _
    simp only [List.drop_succ_cons, List.drop_zero]
    rw [fr_frD, show (List.range 14).map _ = [(0, some 18), (1, some 19), (2, some 20), (3, some 21), (4, some 22), (5, some 23), (6, some 24), (7, some 25), (8, some 26), (9, some 27), (10, some 17), (11, some 28), (12, some 29), (13, some 30)] by kernel_rfl]
    have pd0 : (vs 0) = .int .i64 2 := hΦ 0 (by decide)
    have pd1 : (vs 1) = .pointer (some ⟨w.heap.size, 5, none⟩) := hΦ 1 (by decide)
    have pd2 : (vs 2) = .slice (some ⟨bz, oz, none⟩) nz cz := hΦ 2 (by decide)
    have pd3 : (vs 3) = .int .i64 (td : Nat) := hΦ 3 (by decide)
    have pd4 : (vs 4) = .pointer (some ⟨bz, oz + td, none⟩) := hΦ 4 (by decide)
    have pd5 : (vs 5) = .int .i64 z2 := hΦ 5 (by decide)
    have pd6 : (vs 6) = .int .i64 (2 * z2) := hΦ 6 (by decide)
    have pd7 : (vs 7) = .int .i64 lv := hΦ 7 (by decide)
    have pd8 : (vs 8) = .int .i64 ((2 * z2) - lv) := hΦ 8 (by decide)
    have pd9 : TupQ (0) (x2) (vs 9) W41 := hΦ 9 (by decide)
    have pd10 : TupQ (0) (x2) (vs 10) W41 := hΦ 10 (by decide)
    have pd11 : FstQ (0) (x2) (vs 11) W41 := hΦ 11 (by decide)
    have pd12 : (vs 12) = .int .i64 (0) := hΦ 12 (by decide)
    have pd13 : (vs 13) = .pointer (some ⟨P6 + 1, 8, none⟩) := hΦ 13 (by decide)
    clear hΦ
    simp only [frD, pd0, pd1, pd2, pd3, pd4, pd5, pd6, pd7, pd8, pd12, pd13]
    simp only [Act.put, List.setIfInBounds_toArray, List.set_cons_zero, List.set_cons_succ]
    clear pd0 pd1 pd2 pd3 pd4 pd5 pd6 pd7 pd8 pd12 pd13
    generalize vs 9 = Upd9 at pd9 ⊢
    generalize vs 10 = Upd10 at pd10 ⊢
    generalize vs 11 = Upd11 at pd11 ⊢
    replace S := S.drew.below hk3
    clear pd9
    clear pd10
    have hp := FstQ.rep pd11
    obtain ⟨b43, A43, n43, c43, d43, B43, m43, e43, rfl⟩ := hp.open_
    replace S := S.addQ hp
    clear hp pd11
    clear hk3
    have r7_0 := S.c 0 0 rfl rfl
    have f7_0 := S.f 0 0 rfl
    have r7_1 := S.c 0 1 rfl rfl
    have f7_1 := S.f 0 1 rfl
    have r7_2 := S.c 0 2 rfl rfl
    have f7_2 := S.f 0 2 rfl
    have r7_3 := S.c 0 3 rfl rfl
    have f7_3 := S.f 0 3 rfl
    have r7_4 := S.c 0 4 rfl rfl
    have f7_4 := S.f 0 4 rfl
    have r7_5 := S.c 0 5 rfl rfl
    have f7_5 := S.f 0 5 rfl
    have r7_6 := S.c 0 6 rfl rfl
    have f7_6 := S.f 0 6 rfl
    have r7_7 := S.c 0 7 rfl rfl
    have f7_7 := S.f 0 7 rfl
    have r7_8 := S.c 0 8 rfl rfl
    have f7_8 := S.f 0 8 rfl
    have r7_9 := S.c 0 9 rfl rfl
    have f7_9 := S.f 0 9 rfl
    have r7_10 := S.c 0 10 rfl rfl
    have f7_10 := S.f 0 10 rfl
    have r7_11 := S.c 0 11 rfl rfl
    have f7_11 := S.f 0 11 rfl
    go_upto_region 7 with fail
    replace S := ((((S.put 0 8 rfl rfl (.bool b43)).put 0 9 rfl rfl (.slice A43 n43 c43)).put 0 10 rfl rfl (.bool d43)).put 0 11 rfl rfl (.slice B43 m43 e43))
    obtain ⟨W42, eW, S⟩ := S.pack
    rw [eW]
    clear eW
    clear r7_0 f7_0 r7_1 f7_1 r7_2 f7_2 r7_3 f7_3 r7_4 f7_4 r7_5 f7_5 r7_6 f7_6 r7_7 f7_7 r7_8 f7_8 r7_9 f7_9 r7_10 f7_10 r7_11 f7_11
    have r7_0 := S.c 0 0 rfl rfl
    have r7_1 := S.c 0 1 rfl rfl
    have r7_2 := S.c 0 2 rfl rfl
    have r7_3 := S.c 0 3 rfl rfl
    have r7_4 := S.c 0 4 rfl rfl
    have r7_5 := S.c 0 5 rfl rfl
    have r7_6 := S.c 0 6 rfl rfl
    have r7_7 := S.c 0 7 rfl rfl
    have r7_8 := S.c 0 8 rfl rfl
    have r7_9 := S.c 0 9 rfl rfl
    have r7_10 := S.c 0 10 rfl rfl
    have r7_11 := S.c 0 11 rfl rfl
    go_wp2_with fail
    refine ((fsign_s ((S.qi 0 rfl).num (by omega)) HS1.out)).mono ?_
    rintro e W43 ⟨rfl, hk⟩
    replace S := S.below hk
    clear hk
    clear r7_0 r7_1 r7_2 r7_3 r7_4 r7_5 r7_6 r7_7 r7_8 r7_9 r7_10 r7_11
    rcases Bool.eq_false_or_eq_true (decide (0 < s1)) with t1 | t1
    ·skip
     go_wp2
     go_roundw
     case rel => exact .inr (.inr (.inr ⟨by first | rfl | go_num, _, _, _, _, _, _, _, _, _, _, _, _, _, _, _, _, _, _, _, _, _, _, _, _, _, by first | rfl | go_num, Lib.hid (by have h1 := HP2.out; have h2 := pos_T HS1.out t1; omega), S⟩))
     case measure => simp [intOf]
    ·skip
     go_wp2
     go_roundw
     case rel => exact .inr (.inr (.inr ⟨by first | rfl | go_num, _, _, _, _, _, _, _, _, _, _, _, _, _, _, _, _, _, _, _, _, _, _, _, _, _, by first | rfl | go_num, Lib.hid (by have h1 := HP2.out; have h2 := pos_F HS1.out t1; omega), S⟩))
     case measure => simp [intOf]
  ·have hup := posI_3 HP3.out
   obtain ⟨hup1, hup2⟩ := hup
   have z00 : szR ((0 : Int) : Rat) ≤ 1 := by decide +kernel
   have y0 := szR_int 0
   have y1 := szR_one_sub (((0 : Int) : Rat))
   have y2 := szR_add su (1 - (((0 : Int) : Rat)))
   rcases Bool.eq_false_or_eq_true ((up3 == 0)) with t1 | t1
   ·skip
    go_wp2
    refine bodyPost_ret (results_none rfl _ _ _) rfl ?_
    exact ⟨rfl, _, _, _, _, _, _, _, _, by rw [cT_0 (by show posI x0 + posI x1 + posI x2 = 0; rw [← HP3.out]; exact beq_iff_eq.1 t1), Rat.add_zero]; exact S.dropb.dropb.onlyL.addQ (S.qi 3 rfl)⟩
   ·skip
    rcases Bool.eq_false_or_eq_true ((up3 == 3)) with t2 | t2
    ·skip
     go_upto_region 13 with fail
     refine wp_region_steps (m := 11) rfl (by kernel_rfl) (fun iF vF wF => (List.getD [ve (.agg #[.bool b8, .slice A8 n8 c8, .bool d8, .slice B8 m8 e8]), ve (.func (.func 43) #[] #[]), ve (.pointer (some ⟨P6 + 1, 0, none⟩)), ve (.agg #[.bool v0, .slice X0 N0 M0, .bool u0, .slice Y0 K0 L0]), ve (.pointer (some ⟨P6 + 1, 4, none⟩)), ve (.agg #[.bool v1, .slice X1 N1 M1, .bool u1, .slice Y1 K1 L1]), ve (.pointer (some ⟨P6 + 1, 8, none⟩)), ve (.agg #[.bool v2, .slice X2 N2 M2, .bool u2, .slice Y2 K2 L2]), fun vF wF => RatRep wF vF (((0 : Int) : Rat)), fun vF wF => RatRep wF vF (1 - (((0 : Int) : Rat))), fun vF wF => RatRep wF vF (su + (1 - (((0 : Int) : Rat))))] iF (fun _ _ => True)) vF wF) [] ?_ ?_ ?_
     ·intro i v w w' _ h hk
      refine stabL_get ?_ i v w w' h hk
      exact stab_cons st_e (stab_cons st_e (stab_cons st_e (stab_cons st_e (stab_cons st_e (stab_cons st_e (stab_cons st_e (stab_cons st_e (stab_cons st_q (stab_cons st_q (stab_cons st_q stab_nil))))))))))
     ·intro i hi vs w3 hk3 hd
      have S3 := S.drew.below hk3
      have a0 := S3.c 4 0 rfl rfl
      obtain ⟨a1, a2, a3, a4⟩ := S3.cc4 2 rfl
      have a5 := S3.c 0 0 rfl rfl
      have a6 := S3.c 0 1 rfl rfl
      have a7 := S3.c 0 2 rfl rfl
      have a8 := S3.c 0 3 rfl rfl
      have a9 := S3.c 0 4 rfl rfl
      have a10 := S3.c 0 5 rfl rfl
      have a11 := S3.c 0 6 rfl rfl
      have a12 := S3.c 0 7 rfl rfl
      have a13 := S3.c 0 8 rfl rfl
      have a14 := S3.c 0 9 rfl rfl
      have a15 := S3.c 0 10 rfl rfl
      have a16 := S3.c 0 11 rfl rfl
      match i, hi with
      | 0, _ =>
       refine sv0 [] (ve (.agg #[.bool b8, .slice A8 n8 c8, .bool d8, .slice B8 m8 e8])) rfl fun K hK => ?_; clear hd; simp only [frD] at hK ⊢; go_simp
       exact hK _ _ bl rfl
      | 1, _ =>
       refine sv0 [] (ve (.func (.func 43) #[] #[])) rfl fun K hK => ?_; clear hd; simp only [frD] at hK ⊢; go_simp
       exact hK _ _ bl rfl
      | 2, _ =>
       refine sv0 [] (ve (.pointer (some ⟨P6 + 1, 0, none⟩))) rfl fun K hK => ?_; clear hd; simp only [frD] at hK ⊢; go_simp
       exact hK _ _ bl rfl
      | 3, _ =>
       have qe2 : (vs 2) = .pointer (some ⟨P6 + 1, 0, none⟩) := hdk hd 2
       refine sv0 [(2, some 46)] (ve (.agg #[.bool v0, .slice X0 N0 M0, .bool u0, .slice Y0 K0 L0])) rfl fun K hK => ?_; clear hd; simp only [frD, qe2] at hK ⊢; go_simp
       exact hK _ _ bl rfl
      | 4, _ =>
       refine sv0 [] (ve (.pointer (some ⟨P6 + 1, 4, none⟩))) rfl fun K hK => ?_; clear hd; simp only [frD] at hK ⊢; go_simp
       exact hK _ _ bl rfl
      | 5, _ =>
       have qe4 : (vs 4) = .pointer (some ⟨P6 + 1, 4, none⟩) := hdk hd 4
       refine sv0 [(4, some 48)] (ve (.agg #[.bool v1, .slice X1 N1 M1, .bool u1, .slice Y1 K1 L1])) rfl fun K hK => ?_; clear hd; simp only [frD, qe4] at hK ⊢; go_simp
       exact hK _ _ bl rfl
      | 6, _ =>
       refine sv0 [] (ve (.pointer (some ⟨P6 + 1, 8, none⟩))) rfl fun K hK => ?_; clear hd; simp only [frD] at hK ⊢; go_simp
       exact hK _ _ bl rfl
      | 7, _ =>
       have qe6 : (vs 6) = .pointer (some ⟨P6 + 1, 8, none⟩) := hdk hd 6
       refine sv0 [(6, some 50)] (ve (.agg #[.bool v2, .slice X2 N2 M2, .bool u2, .slice Y2 K2 L2])) rfl fun K hK => ?_; clear hd; simp only [frD, qe6] at hK ⊢; go_simp
       exact hK _ _ bl rfl
      | 8, _ =>
       refine sc (A := #[.int .i64 0]) (B := #[.int .i64 0]) [] (fun vF wF => RatRep wF vF (((0 : Int) : Rat))) rfl (wanted_none rfl) rfl Tryz.func44 ?_
       refine ((whole_num 0 (by omega) (by omega))).mono ?_; rintro e w4 ⟨U, rfl, hr, hk4⟩; exact ⟨_, rfl, hk4, hr⟩
      | 9, _ =>
       have qe1 : (vs 1) = .func (.func 43) #[] #[] := hdk hd 1; have qe3 : (vs 3) = .agg #[.bool v0, .slice X0 N0 M0, .bool u0, .slice Y0 K0 L0] := hdk hd 3; have qe5 : (vs 5) = .agg #[.bool v1, .slice X1 N1 M1, .bool u1, .slice Y1 K1 L1] := hdk hd 5; have qe7 : (vs 7) = .agg #[.bool v2, .slice X2 N2 M2, .bool u2, .slice Y2 K2 L2] := hdk hd 7; have h8 : RatRep w3 (vs 8) (((0 : Int) : Rat)) := hdk hd 8
       refine step_call (F := 43) (X := (vs 1)) (A := #[(vs 3), (vs 5), (vs 7), (vs 8)]) (B := #[.agg #[.bool v0, .slice X0 N0 M0, .bool u0, .slice Y0 K0 L0], .agg #[.bool v1, .slice X1 N1 M1, .bool u1, .slice Y1 K1 L1], .agg #[.bool v2, .slice X2 N2 M2, .bool u2, .slice Y2 K2 L2], (vs 8)]) [(1, some 45), (3, some 47), (5, some 49), (7, some 51), (8, some 52)] (fun vF wF => RatRep wF vF (1 - (((0 : Int) : Rat)))) rfl (by kernel_rfl) (fun _ _ h => h) rfl (wanted_none rfl) rfl rfl (by kernel_rfl) qe1 (by kernel_rfl) (by rw [qe3, qe5, qe7]) Tryz.func43 (by kernel_rfl) (by kernel_rfl) ?_
       refine ((cabove1_num ((S3.qi 2 rfl).num (by omega)) ((S3.qi 1 rfl).num (by omega)) ((S3.qi 0 rfl).num (by omega)) (h8.num (by omega)) (by omega))).mono ?_; rintro e w4 ⟨U, rfl, hr, hk4⟩; exact ⟨_, rfl, hk4, hr⟩
      | 10, _ =>
       have qe0 : (vs 0) = .agg #[.bool b8, .slice A8 n8 c8, .bool d8, .slice B8 m8 e8] := hdk hd 0; have h9 : RatRep w3 (vs 9) (1 - (((0 : Int) : Rat))) := hdk hd 9
       refine sc (A := #[(vs 0), (vs 9)]) (B := #[.agg #[.bool b8, .slice A8 n8 c8, .bool d8, .slice B8 m8 e8], (vs 9)]) [(0, some 44), (9, some 53)] (fun vF wF => RatRep wF vF (su + (1 - (((0 : Int) : Rat))))) rfl (wanted_none rfl) (by rw [qe0]) Tryz.func36 ?_
       refine ((fadd_num ((S3.qi 3 rfl).num (by omega)) (h9.num (by omega)))).mono ?_; rintro e w4 ⟨U, rfl, hr, hk4⟩; exact ⟨_, rfl, hk4, hr⟩
      | i + 11, hi => exact absurd hi (by omega)
     ·intro vs W41 hk3 hΦ _
      simp only [List.drop_succ_cons, List.drop_zero]
      rw [fr_frD, show (List.range 11).map _ = [(0, some 44), (1, some 45), (2, some 46), (3, some 47), (4, some 48), (5, some 49), (6, some 50), (7, some 51), (8, some 52), (9, some 53), (10, some 54)] by kernel_rfl]
      have pf0 : (vs 0) = .agg #[.bool b8, .slice A8 n8 c8, .bool d8, .slice B8 m8 e8] := hΦ 0 (by decide)
      have pf1 : (vs 1) = .func (.func 43) #[] #[] := hΦ 1 (by decide)
      have pf2 : (vs 2) = .pointer (some ⟨P6 + 1, 0, none⟩) := hΦ 2 (by decide)
      have pf3 : (vs 3) = .agg #[.bool v0, .slice X0 N0 M0, .bool u0, .slice Y0 K0 L0] := hΦ 3 (by decide)
      have pf4 : (vs 4) = .pointer (some ⟨P6 + 1, 4, none⟩) := hΦ 4 (by decide)
      have pf5 : (vs 5) = .agg #[.bool v1, .slice X1 N1 M1, .bool u1, .slice Y1 K1 L1] := hΦ 5 (by decide)
      have pf6 : (vs 6) = .pointer (some ⟨P6 + 1, 8, none⟩) := hΦ 6 (by decide)
      have pf7 : (vs 7) = .agg #[.bool v2, .slice X2 N2 M2, .bool u2, .slice Y2 K2 L2] := hΦ 7 (by decide)
      have pf8 : RatRep W41 (vs 8) (((0 : Int) : Rat)) := hΦ 8 (by decide)
      have pf9 : RatRep W41 (vs 9) (1 - (((0 : Int) : Rat))) := hΦ 9 (by decide)
      have pf10 : RatRep W41 (vs 10) (su + (1 - (((0 : Int) : Rat)))) := hΦ 10 (by decide)
      clear hΦ
      simp only [frD, pf0, pf1, pf2, pf3, pf4, pf5, pf6, pf7]
      simp only [Act.put, List.setIfInBounds_toArray, List.set_cons_zero, List.set_cons_succ]
      clear pf0 pf1 pf2 pf3 pf4 pf5 pf6 pf7
      generalize vs 8 = Upf8 at pf8 ⊢
      generalize vs 9 = Upf9 at pf9 ⊢
      generalize vs 10 = Upf10 at pf10 ⊢
      replace S := S.drew.below hk3
      clear pf8
      clear pf9
      obtain ⟨b43, A43, n43, c43, d43, B43, m43, e43, rfl⟩ := pf10.open_
      replace S := S.addQ pf10
      clear pf10
      clear hk3
      have r5_0 := S.c 2 0 rfl rfl
      have f5_0 := S.f 2 0 rfl
      have r5_1 := S.c 2 1 rfl rfl
      have f5_1 := S.f 2 1 rfl
      have r5_2 := S.c 2 2 rfl rfl
      have f5_2 := S.f 2 2 rfl
      have r5_3 := S.c 2 3 rfl rfl
      have f5_3 := S.f 2 3 rfl
      go_wp2
      replace S := (S.put4 2 rfl rfl rfl (x' := .bool b43) (y' := .slice A43 n43 c43) (z' := .bool d43) (u' := .slice B43 m43 e43))
      refine bodyPost_ret (results_none rfl _ _ _) rfl ?_
      exact ⟨rfl, _, _, _, _, _, _, _, _, by rw [cT_3 (by show posI x0 + posI x1 + posI x2 = 3; rw [← HP3.out]; exact beq_iff_eq.1 t2)]; exact S.dropb.dropb.onlyL.addQ (S.qi 0 rfl)⟩
    ·skip
     go_wp2
     have HP3C : Hid (cntT (x0, x1, x2) = up3) := Lib.hid HP3.out.symm
     have hn0 : up3 ≠ 0 := by simpa using t1
     have hn3 : up3 ≠ 3 := by simpa using t2
     have HN03 : Hid (cntT (x0, x1, x2) ≠ 0 ∧ cntT (x0, x1, x2) ≠ 3) := Lib.hid (by rw [HP3C.out]; exact ⟨hn0, hn3⟩)
     clear hn0 hn3 t1 t2
     go_loopg [] 2 (fun k wr => ∃ (q0 q1 q2 : Rat) (v0 : Bool) (X0 : Option Addr) (N0 M0 : Nat) (u0 : Bool) (Y0 : Option Addr) (K0 L0 : Nat) (v1 : Bool) (X1 : Option Addr) (N1 M1 : Nat) (u1 : Bool) (Y1 : Option Addr) (K1 L1 : Nat) (v2 : Bool) (X2 : Option Addr) (N2 M2 : Nat) (u2 : Bool) (Y2 : Option Addr) (K2 L2 : Nat), St w wr ((P6 + 1, 82, [.bool v0, .slice X0 N0 M0, .bool u0, .slice Y0 K0 L0, .bool v1, .slice X1 N1 M1, .bool u1, .slice Y1 K1 L1, .bool v2, .slice X2 N2 M2, .bool u2, .slice Y2 K2 L2]) :: (P6, 74, [.int .i64 (ta : Nat), .int .i64 (tb : Nat), .int .i64 (td : Nat)]) :: (P9, 35, [.bool b8, .slice A8 n8 c8, .bool d8, .slice B8 m8 e8]) :: (w.heap.size + 1 + 1 + 1 + 1, 35, [.bool false, .slice none 0 0, .bool false, .slice none 0 0]) :: (w.heap.size + 1 + 1 + 1, 59, [.func (.func 43) #[] #[]]) :: (w.heap.size + 1 + 1, 58, [.func (.func 33) #[] #[]]) :: (w.heap.size + 1, 3, [.int .i64 lv]) :: (w.heap.size, 24, grL gx gy st gw gh (some ⟨bz, oz, none⟩) nz cz) :: bs) [fun w => RatRep w (.agg #[.bool v2, .slice X2 N2 M2, .bool u2, .slice Y2 K2 L2]) q2, fun w => RatRep w (.agg #[.bool v1, .slice X1 N1 M1, .bool u1, .slice Y1 K1 L1]) q1, fun w => RatRep w (.agg #[.bool v0, .slice X0 N0 M0, .bool u0, .slice Y0 K0 L0]) q0, fun w => RatRep w (.agg #[.bool b8, .slice A8 n8 c8, .bool d8, .slice B8 m8 e8]) su] ∧ Hid (RotOk (x0, x1, x2) k (q0, q1, q2)))
     case atStart => exact ⟨x0, x1, x2, v0, X0, N0, M0, u0, Y0, K0, L0, v1, X1, N1, M1, u1, Y1, K1, L1, v2, X2, N2, M2, u2, Y2, K2, L2, S, Lib.hid (.inl ⟨rfl, rfl⟩)⟩
     case round =>
      clear S
      obtain ⟨q0, q1, q2, v0, X0, N0, M0, u0, Y0, K0, L0, v1, X1, N1, M1, u1, Y1, K1, L1, v2, X2, N2, M2, u2, Y2, K2, L2, S, HRO⟩ := hrel
      have HQ : Hid (szR q0 ≤ 1 ∧ szR q1 ≤ 1 ∧ szR q2 ≤ 1) := Lib.hid (rot_sz HRO.out ZX.out)
      obtain ⟨zq0, zq1, zq2⟩ := HQ.out
      have hcn : cntT (q0, q1, q2) = up3 := HRO.out.cnt.trans HP3C.out
      have hways := rot_ways (q0, q1, q2) (by rw [HRO.out.cnt]; exact HN03.out.1) (by rw [HRO.out.cnt]; exact HN03.out.2)
      rw [hcn] at hways
      clear hcn
      rcases hways with ⟨hw, hc1, ha⟩ | ⟨hw, hc1, ha⟩ | ⟨hw, hc1, hc2, hc3, ha⟩ | ⟨hw, hc1, hc2, hc3, ha⟩
      ·have HNX := Lib.hid (HRO.out.next HN03.out.1 HN03.out.2 ha)
       have HC1 := Lib.hid (fun (s : Int) (h : q0.num.sign = s) => sgF hc1 h)
       have HC2 : Hid ((up3 == 1) = true) := Lib.hid (by rw [hw]; rfl)
       clear hw hc1 ha
       obtain ⟨s1, hs1⟩ : ∃ s, q0.num.sign = s := ⟨_, rfl⟩
       have t1 : decide (0 < s1) = false := by exact HC1.out _ hs1
       have t2 : (up3 == 1) = true := by exact HC2.out
       have HS1 := Lib.hid hs1
       clear hs1
       go_upto_region 14 with fail
       refine wp_region_steps (m := 18) rfl (by kernel_rfl) (fun iF vF wF => (List.getD [ve (.pointer (some ⟨P6 + 1, 0, none⟩)), ve (.agg #[.bool v0, .slice X0 N0 M0, .bool u0, .slice Y0 K0 L0]), ve (.int .i64 s1), ve (.bool false), ve (.int .i64 up3), ve (.bool true), ve (.bool true), ve (.bool true), ve undef, ve undef, ve undef, ve undef, ve undef, ve undef, ve undef, ve undef, ve undef, ve (.bool true)] iF (fun _ _ => True)) vF wF) [] ?_ ?_ ?_
       ·intro i v w w' _ h hk
        refine stabL_get ?_ i v w w' h hk
        exact stab_cons st_e (stab_cons st_e (stab_cons st_e (stab_cons st_e (stab_cons st_e (stab_cons st_e (stab_cons st_e (stab_cons st_e (stab_cons st_e (stab_cons st_e (stab_cons st_e (stab_cons st_e (stab_cons st_e (stab_cons st_e (stab_cons st_e (stab_cons st_e (stab_cons st_e (stab_cons st_e stab_nil)))))))))))))))))
       ·intro i hi vs w3 hk3 hd
        have S3 := S.drew.below hk3
        have a0 := S3.c 0 0 rfl rfl
        have a1 := S3.c 0 1 rfl rfl
        have a2 := S3.c 0 2 rfl rfl
        have a3 := S3.c 0 3 rfl rfl
        have a4 := S3.c 0 4 rfl rfl
        have a5 := S3.c 0 5 rfl rfl
        have a6 := S3.c 0 6 rfl rfl
        have a7 := S3.c 0 7 rfl rfl
        have a8 := S3.c 0 8 rfl rfl
        have a9 := S3.c 0 9 rfl rfl
        have a10 := S3.c 0 10 rfl rfl
        have a11 := S3.c 0 11 rfl rfl
        match i, hi with
        | 0, _ =>
         refine sv0 [] (ve (.pointer (some ⟨P6 + 1, 0, none⟩))) rfl fun K hK => ?_; clear hd; simp only [frD] at hK ⊢; go_simp
         exact hK _ _ bl rfl
        | 1, _ =>
         have qe0 : (vs 0) = .pointer (some ⟨P6 + 1, 0, none⟩) := hdk hd 0
         refine sv0 [(0, some 55)] (ve (.agg #[.bool v0, .slice X0 N0 M0, .bool u0, .slice Y0 K0 L0])) rfl fun K hK => ?_; clear hd; simp only [frD, qe0] at hK ⊢; go_simp
         exact hK _ _ bl rfl
        | 2, _ =>
         have qe1 : (vs 1) = .agg #[.bool v0, .slice X0 N0 M0, .bool u0, .slice Y0 K0 L0] := hdk hd 1
         refine sc (A := #[(vs 1)]) (B := #[.agg #[.bool v0, .slice X0 N0 M0, .bool u0, .slice Y0 K0 L0]]) [(1, some 56)] (ve (.int .i64 s1)) rfl (wanted_none rfl) (by rw [qe1]) Tryz.func74 ?_
         refine ((fsign_s ((S3.qi 2 rfl).num (by omega)) HS1.out)).mono ?_; rintro e w4 ⟨rfl, hk4⟩; exact ⟨_, rfl, hk4, rfl⟩
        | 3, _ =>
         have qe2 : (vs 2) = .int .i64 s1 := hdk hd 2
         refine sv0 [(2, some 57)] (ve (.bool false)) rfl fun K hK => ?_; clear hd; simp only [frD, qe2] at hK ⊢; go_simp
         exact hK _ _ bl rfl
        | 4, _ =>
         refine sv0 [] (ve (.int .i64 up3)) rfl fun K hK => ?_; clear hd; simp only [frD] at hK ⊢; go_simp
         exact hK _ _ bl rfl
        | 5, _ =>
         have qe4 : (vs 4) = .int .i64 up3 := hdk hd 4
         refine sv0 [(4, some 59)] (ve (.bool true)) rfl fun K hK => ?_; clear hd; simp only [frD, qe4] at hK ⊢; go_simp
         exact hK _ _ bl rfl
        | 6, _ =>
         have qe3 : (vs 3) = .bool false := hdk hd 3; have qe5 : (vs 5) = .bool true := hdk hd 5
         refine sv0 [(3, some 58), (5, some 60)] (ve (.bool true)) rfl fun K hK => ?_; clear hd; simp only [frD, qe3, qe5] at hK ⊢; go_simp
         exact hK _ _ bl rfl
        | 7, _ =>
         have qe2 : (vs 2) = .int .i64 s1 := hdk hd 2; have qe6 : (vs 6) = .bool true := hdk hd 6
         refine sv0 [(2, some 57), (6, some 61)] (ve (.bool true)) rfl fun K hK => ?_; clear hd; simp only [frD, qe2, qe6] at hK ⊢; go_simp
         exact hK _ _ bl rfl
        | 8, _ =>
         have qe7 : (vs 7) = .bool true := hdk hd 7
         exact step_no [(7, some 62)] rfl (by kernel_rfl) (by simp only [frD, qe7]; rfl) rfl (by simp)
        | 9, _ =>
         have qe7 : (vs 7) = .bool true := hdk hd 7; have qe8 : (vs 8) = undef := hdk hd 8
         exact step_no [(7, some 62), (8, some 63)] rfl (by kernel_rfl) (by simp only [frD, qe7, qe8]; rfl) rfl (by simp)
        | 10, _ =>
         have qe7 : (vs 7) = .bool true := hdk hd 7; have qe9 : (vs 9) = undef := hdk hd 9
         exact step_no [(7, some 62), (9, some 64)] rfl (by kernel_rfl) (by simp only [frD, qe7, qe9]; rfl) rfl (by simp)
        | 11, _ =>
         have qe7 : (vs 7) = .bool true := hdk hd 7; have qe10 : (vs 10) = undef := hdk hd 10
         exact step_no [(7, some 62), (10, some 65)] rfl (by kernel_rfl) (by simp only [frD, qe7, qe10]; rfl) rfl (by simp)
        | 12, _ =>
         have qe7 : (vs 7) = .bool true := hdk hd 7
         exact step_no [(7, some 62)] rfl (by kernel_rfl) (by simp only [frD, qe7]; rfl) rfl (by simp)
        | 13, _ =>
         have qe7 : (vs 7) = .bool true := hdk hd 7; have qe12 : (vs 12) = undef := hdk hd 12
         exact step_no [(7, some 62), (12, some 67)] rfl (by kernel_rfl) (by simp only [frD, qe7, qe12]; rfl) rfl (by simp)
        | 14, _ =>
         have qe7 : (vs 7) = .bool true := hdk hd 7; have qe10 : (vs 10) = undef := hdk hd 10; have qe13 : (vs 13) = undef := hdk hd 13
         exact step_no [(7, some 62), (10, some 65), (13, some 68)] rfl (by kernel_rfl) (by simp only [frD, qe7, qe10, qe13]; rfl) rfl (by simp)
        | 15, _ =>
         have qe7 : (vs 7) = .bool true := hdk hd 7; have qe14 : (vs 14) = undef := hdk hd 14
         exact step_no [(7, some 62), (14, some 69)] rfl (by kernel_rfl) (by simp only [frD, qe7, qe14]; rfl) rfl (by simp)
        | 16, _ =>
         have qe7 : (vs 7) = .bool true := hdk hd 7; have qe11 : (vs 11) = undef := hdk hd 11; have qe15 : (vs 15) = undef := hdk hd 15
         exact step_no [(7, some 62), (11, some 66), (15, some 70)] rfl (by kernel_rfl) (by simp only [frD, qe7, qe11, qe15]; rfl) rfl (by simp)
        | 17, _ =>
         have qe7 : (vs 7) = .bool true := hdk hd 7; have qe16 : (vs 16) = undef := hdk hd 16
         refine sv0 [(7, some 62), (16, some 71)] (ve (.bool true)) rfl fun K hK => ?_; clear hd; simp only [frD, qe7, qe16] at hK ⊢; go_simp
         exact hK _ _ bl rfl
        | i + 18, hi => exact absurd hi (by omega)
       ·intro vs W41 hk3 hΦ _
        simp only [List.drop_succ_cons, List.drop_zero]
        rw [fr_frD, show (List.range 18).map _ = [(0, some 55), (1, some 56), (2, some 57), (3, some 58), (4, some 59), (5, some 60), (6, some 61), (7, some 62), (8, some 63), (9, some 64), (10, some 65), (11, some 66), (12, some 67), (13, some 68), (14, some 69), (15, some 70), (16, some 71), (17, some 72)] by kernel_rfl]
        have ph0 : (vs 0) = .pointer (some ⟨P6 + 1, 0, none⟩) := hΦ 0 (by decide)
        have ph1 : (vs 1) = .agg #[.bool v0, .slice X0 N0 M0, .bool u0, .slice Y0 K0 L0] := hΦ 1 (by decide)
        have ph2 : (vs 2) = .int .i64 s1 := hΦ 2 (by decide)
        have ph3 : (vs 3) = .bool false := hΦ 3 (by decide)
        have ph4 : (vs 4) = .int .i64 up3 := hΦ 4 (by decide)
        have ph5 : (vs 5) = .bool true := hΦ 5 (by decide)
        have ph6 : (vs 6) = .bool true := hΦ 6 (by decide)
        have ph7 : (vs 7) = .bool true := hΦ 7 (by decide)
        have ph8 : (vs 8) = undef := hΦ 8 (by decide)
        have ph9 : (vs 9) = undef := hΦ 9 (by decide)
        have ph10 : (vs 10) = undef := hΦ 10 (by decide)
        have ph11 : (vs 11) = undef := hΦ 11 (by decide)
        have ph12 : (vs 12) = undef := hΦ 12 (by decide)
        have ph13 : (vs 13) = undef := hΦ 13 (by decide)
        have ph14 : (vs 14) = undef := hΦ 14 (by decide)
        have ph15 : (vs 15) = undef := hΦ 15 (by decide)
        have ph16 : (vs 16) = undef := hΦ 16 (by decide)
        have ph17 : (vs 17) = .bool true := hΦ 17 (by decide)
        clear hΦ
        simp only [frD, ph0, ph1, ph2, ph3, ph4, ph5, ph6, ph7, ph8, ph9, ph10, ph11, ph12, ph13, ph14, ph15, ph16, ph17]
        simp only [Act.put, List.setIfInBounds_toArray, List.set_cons_zero, List.set_cons_succ]
        clear ph0 ph1 ph2 ph3 ph4 ph5 ph6 ph7 ph8 ph9 ph10 ph11 ph12 ph13 ph14 ph15 ph16 ph17
        replace S := S.drew.below hk3
        clear hk3
        have r7_0 := S.c 0 0 rfl rfl
        have f7_0 := S.f 0 0 rfl
        have r7_1 := S.c 0 1 rfl rfl
        have f7_1 := S.f 0 1 rfl
        have r7_2 := S.c 0 2 rfl rfl
        have f7_2 := S.f 0 2 rfl
        have r7_3 := S.c 0 3 rfl rfl
        have f7_3 := S.f 0 3 rfl
        have r7_4 := S.c 0 4 rfl rfl
        have f7_4 := S.f 0 4 rfl
        have r7_5 := S.c 0 5 rfl rfl
        have f7_5 := S.f 0 5 rfl
        have r7_6 := S.c 0 6 rfl rfl
        have f7_6 := S.f 0 6 rfl
        have r7_7 := S.c 0 7 rfl rfl
        have f7_7 := S.f 0 7 rfl
        have r7_8 := S.c 0 8 rfl rfl
        have f7_8 := S.f 0 8 rfl
        have r7_9 := S.c 0 9 rfl rfl
        have f7_9 := S.f 0 9 rfl
        have r7_10 := S.c 0 10 rfl rfl
        have f7_10 := S.f 0 10 rfl
        have r7_11 := S.c 0 11 rfl rfl
        have f7_11 := S.f 0 11 rfl
        go_wp2
        replace S := ((((((((((((S.put 0 0 rfl rfl (.bool v1)).put 0 1 rfl rfl (.slice X1 N1 M1)).put 0 2 rfl rfl (.bool u1)).put 0 3 rfl rfl (.slice Y1 K1 L1)).put 0 4 rfl rfl (.bool v2)).put 0 5 rfl rfl (.slice X2 N2 M2)).put 0 6 rfl rfl (.bool u2)).put 0 7 rfl rfl (.slice Y2 K2 L2)).put 0 8 rfl rfl (.bool v0)).put 0 9 rfl rfl (.slice X0 N0 M0)).put 0 10 rfl rfl (.bool u0)).put 0 11 rfl rfl (.slice Y0 K0 L0))
        clear r7_0 f7_0 r7_1 f7_1 r7_2 f7_2 r7_3 f7_3 r7_4 f7_4 r7_5 f7_5 r7_6 f7_6 r7_7 f7_7 r7_8 f7_8 r7_9 f7_9 r7_10 f7_10 r7_11 f7_11
        go_roundg (gk - 1)
        case measure => have := HNX.out.1; omega
        case rel => exact ⟨q1, q2, q0, _, _, _, _, _, _, _, _, _, _, _, _, _, _, _, _, _, _, _, _, _, _, _, _, (((S.onlyL.addQ (S.qi 3 rfl)).addQ (S.qi 1 rfl)).addQ (S.qi 0 rfl)).addQ (S.qi 2 rfl), Lib.hid HNX.out.2⟩
      ·have HNX := Lib.hid (HRO.out.next HN03.out.1 HN03.out.2 ha)
       have HC1 := Lib.hid (fun (s : Int) (h : q0.num.sign = s) => sgT hc1 h)
       have HC2 : Hid ((up3 == 1) = false) := Lib.hid (by rw [hw]; rfl)
       clear hw hc1 ha
       obtain ⟨s1, hs1⟩ : ∃ s, q0.num.sign = s := ⟨_, rfl⟩
       have t1 : decide (0 < s1) = true := by exact HC1.out _ hs1
       have t2 : (up3 == 1) = false := by exact HC2.out
       have HS1 := Lib.hid hs1
       clear hs1
       go_upto_region 14 with fail
       refine wp_region_steps (m := 18) rfl (by kernel_rfl) (fun iF vF wF => (List.getD [ve (.pointer (some ⟨P6 + 1, 0, none⟩)), ve (.agg #[.bool v0, .slice X0 N0 M0, .bool u0, .slice Y0 K0 L0]), ve (.int .i64 s1), ve (.bool true), ve (.int .i64 up3), ve (.bool false), ve (.bool true), ve (.bool true), ve undef, ve undef, ve undef, ve undef, ve undef, ve undef, ve undef, ve undef, ve undef, ve (.bool true)] iF (fun _ _ => True)) vF wF) [] ?_ ?_ ?_
       ·intro i v w w' _ h hk
        refine stabL_get ?_ i v w w' h hk
        exact stab_cons st_e (stab_cons st_e (stab_cons st_e (stab_cons st_e (stab_cons st_e (stab_cons st_e (stab_cons st_e (stab_cons st_e (stab_cons st_e (stab_cons st_e (stab_cons st_e (stab_cons st_e (stab_cons st_e (stab_cons st_e (stab_cons st_e (stab_cons st_e (stab_cons st_e (stab_cons st_e stab_nil)))))))))))))))))
       ·intro i hi vs w3 hk3 hd
        have S3 := S.drew.below hk3
        have a0 := S3.c 0 0 rfl rfl
        have a1 := S3.c 0 1 rfl rfl
        have a2 := S3.c 0 2 rfl rfl
        have a3 := S3.c 0 3 rfl rfl
        have a4 := S3.c 0 4 rfl rfl
        have a5 := S3.c 0 5 rfl rfl
        have a6 := S3.c 0 6 rfl rfl
        have a7 := S3.c 0 7 rfl rfl
        have a8 := S3.c 0 8 rfl rfl
        have a9 := S3.c 0 9 rfl rfl
        have a10 := S3.c 0 10 rfl rfl
        have a11 := S3.c 0 11 rfl rfl
        match i, hi with
        | 0, _ =>
         refine sv0 [] (ve (.pointer (some ⟨P6 + 1, 0, none⟩))) rfl fun K hK => ?_; clear hd; simp only [frD] at hK ⊢; go_simp
         exact hK _ _ bl rfl
        | 1, _ =>
         have qe0 : (vs 0) = .pointer (some ⟨P6 + 1, 0, none⟩) := hdk hd 0
         refine sv0 [(0, some 55)] (ve (.agg #[.bool v0, .slice X0 N0 M0, .bool u0, .slice Y0 K0 L0])) rfl fun K hK => ?_; clear hd; simp only [frD, qe0] at hK ⊢; go_simp
         exact hK _ _ bl rfl
        | 2, _ =>
         have qe1 : (vs 1) = .agg #[.bool v0, .slice X0 N0 M0, .bool u0, .slice Y0 K0 L0] := hdk hd 1
         refine sc (A := #[(vs 1)]) (B := #[.agg #[.bool v0, .slice X0 N0 M0, .bool u0, .slice Y0 K0 L0]]) [(1, some 56)] (ve (.int .i64 s1)) rfl (wanted_none rfl) (by rw [qe1]) Tryz.func74 ?_
         refine ((fsign_s ((S3.qi 2 rfl).num (by omega)) HS1.out)).mono ?_; rintro e w4 ⟨rfl, hk4⟩; exact ⟨_, rfl, hk4, rfl⟩
        | 3, _ =>
         have qe2 : (vs 2) = .int .i64 s1 := hdk hd 2
         refine sv0 [(2, some 57)] (ve (.bool true)) rfl fun K hK => ?_; clear hd; simp only [frD, qe2] at hK ⊢; go_simp
         exact hK _ _ bl rfl
        | 4, _ =>
         refine sv0 [] (ve (.int .i64 up3)) rfl fun K hK => ?_; clear hd; simp only [frD] at hK ⊢; go_simp
         exact hK _ _ bl rfl
        | 5, _ =>
         have qe4 : (vs 4) = .int .i64 up3 := hdk hd 4
         refine sv0 [(4, some 59)] (ve (.bool false)) rfl fun K hK => ?_; clear hd; simp only [frD, qe4] at hK ⊢; go_simp
         exact hK _ _ bl rfl
        | 6, _ =>
         have qe3 : (vs 3) = .bool true := hdk hd 3; have qe5 : (vs 5) = .bool false := hdk hd 5
         refine sv0 [(3, some 58), (5, some 60)] (ve (.bool true)) rfl fun K hK => ?_; clear hd; simp only [frD, qe3, qe5] at hK ⊢; go_simp
         exact hK _ _ bl rfl
        | 7, _ =>
         have qe2 : (vs 2) = .int .i64 s1 := hdk hd 2; have qe6 : (vs 6) = .bool true := hdk hd 6
         refine sv0 [(2, some 57), (6, some 61)] (ve (.bool true)) rfl fun K hK => ?_; clear hd; simp only [frD, qe2, qe6] at hK ⊢; go_simp
         exact hK _ _ bl rfl
        | 8, _ =>
         have qe7 : (vs 7) = .bool true := hdk hd 7
         exact step_no [(7, some 62)] rfl (by kernel_rfl) (by simp only [frD, qe7]; rfl) rfl (by simp)
        | 9, _ =>
         have qe7 : (vs 7) = .bool true := hdk hd 7; have qe8 : (vs 8) = undef := hdk hd 8
         exact step_no [(7, some 62), (8, some 63)] rfl (by kernel_rfl) (by simp only [frD, qe7, qe8]; rfl) rfl (by simp)
        | 10, _ =>
         have qe7 : (vs 7) = .bool true := hdk hd 7; have qe9 : (vs 9) = undef := hdk hd 9
         exact step_no [(7, some 62), (9, some 64)] rfl (by kernel_rfl) (by simp only [frD, qe7, qe9]; rfl) rfl (by simp)
        | 11, _ =>
         have qe7 : (vs 7) = .bool true := hdk hd 7; have qe10 : (vs 10) = undef := hdk hd 10
         exact step_no [(7, some 62), (10, some 65)] rfl (by kernel_rfl) (by simp only [frD, qe7, qe10]; rfl) rfl (by simp)
        | 12, _ =>
         have qe7 : (vs 7) = .bool true := hdk hd 7
         exact step_no [(7, some 62)] rfl (by kernel_rfl) (by simp only [frD, qe7]; rfl) rfl (by simp)
        | 13, _ =>
         have qe7 : (vs 7) = .bool true := hdk hd 7; have qe12 : (vs 12) = undef := hdk hd 12
         exact step_no [(7, some 62), (12, some 67)] rfl (by kernel_rfl) (by simp only [frD, qe7, qe12]; rfl) rfl (by simp)
        | 14, _ =>
         have qe7 : (vs 7) = .bool true := hdk hd 7; have qe10 : (vs 10) = undef := hdk hd 10; have qe13 : (vs 13) = undef := hdk hd 13
         exact step_no [(7, some 62), (10, some 65), (13, some 68)] rfl (by kernel_rfl) (by simp only [frD, qe7, qe10, qe13]; rfl) rfl (by simp)
        | 15, _ =>
         have qe7 : (vs 7) = .bool true := hdk hd 7; have qe14 : (vs 14) = undef := hdk hd 14
         exact step_no [(7, some 62), (14, some 69)] rfl (by kernel_rfl) (by simp only [frD, qe7, qe14]; rfl) rfl (by simp)
        | 16, _ =>
         have qe7 : (vs 7) = .bool true := hdk hd 7; have qe11 : (vs 11) = undef := hdk hd 11; have qe15 : (vs 15) = undef := hdk hd 15
         exact step_no [(7, some 62), (11, some 66), (15, some 70)] rfl (by kernel_rfl) (by simp only [frD, qe7, qe11, qe15]; rfl) rfl (by simp)
        | 17, _ =>
         have qe7 : (vs 7) = .bool true := hdk hd 7; have qe16 : (vs 16) = undef := hdk hd 16
         refine sv0 [(7, some 62), (16, some 71)] (ve (.bool true)) rfl fun K hK => ?_; clear hd; simp only [frD, qe7, qe16] at hK ⊢; go_simp
         exact hK _ _ bl rfl
        | i + 18, hi => exact absurd hi (by omega)
       ·intro vs W41 hk3 hΦ _
        simp only [List.drop_succ_cons, List.drop_zero]
        rw [fr_frD, show (List.range 18).map _ = [(0, some 55), (1, some 56), (2, some 57), (3, some 58), (4, some 59), (5, some 60), (6, some 61), (7, some 62), (8, some 63), (9, some 64), (10, some 65), (11, some 66), (12, some 67), (13, some 68), (14, some 69), (15, some 70), (16, some 71), (17, some 72)] by kernel_rfl]
        have ph0 : (vs 0) = .pointer (some ⟨P6 + 1, 0, none⟩) := hΦ 0 (by decide)
        have ph1 : (vs 1) = .agg #[.bool v0, .slice X0 N0 M0, .bool u0, .slice Y0 K0 L0] := hΦ 1 (by decide)
        have ph2 : (vs 2) = .int .i64 s1 := hΦ 2 (by decide)
        have ph3 : (vs 3) = .bool true := hΦ 3 (by decide)
        have ph4 : (vs 4) = .int .i64 up3 := hΦ 4 (by decide)
        have ph5 : (vs 5) = .bool false := hΦ 5 (by decide)
        have ph6 : (vs 6) = .bool true := hΦ 6 (by decide)
        have ph7 : (vs 7) = .bool true := hΦ 7 (by decide)
        have ph8 : (vs 8) = undef := hΦ 8 (by decide)
        have ph9 : (vs 9) = undef := hΦ 9 (by decide)
        have ph10 : (vs 10) = undef := hΦ 10 (by decide)
        have ph11 : (vs 11) = undef := hΦ 11 (by decide)
        have ph12 : (vs 12) = undef := hΦ 12 (by decide)
        have ph13 : (vs 13) = undef := hΦ 13 (by decide)
        have ph14 : (vs 14) = undef := hΦ 14 (by decide)
        have ph15 : (vs 15) = undef := hΦ 15 (by decide)
        have ph16 : (vs 16) = undef := hΦ 16 (by decide)
        have ph17 : (vs 17) = .bool true := hΦ 17 (by decide)
        clear hΦ
        simp only [frD, ph0, ph1, ph2, ph3, ph4, ph5, ph6, ph7, ph8, ph9, ph10, ph11, ph12, ph13, ph14, ph15, ph16, ph17]
        simp only [Act.put, List.setIfInBounds_toArray, List.set_cons_zero, List.set_cons_succ]
        clear ph0 ph1 ph2 ph3 ph4 ph5 ph6 ph7 ph8 ph9 ph10 ph11 ph12 ph13 ph14 ph15 ph16 ph17
        replace S := S.drew.below hk3
        clear hk3
        have r7_0 := S.c 0 0 rfl rfl
        have f7_0 := S.f 0 0 rfl
        have r7_1 := S.c 0 1 rfl rfl
        have f7_1 := S.f 0 1 rfl
        have r7_2 := S.c 0 2 rfl rfl
        have f7_2 := S.f 0 2 rfl
        have r7_3 := S.c 0 3 rfl rfl
        have f7_3 := S.f 0 3 rfl
        have r7_4 := S.c 0 4 rfl rfl
        have f7_4 := S.f 0 4 rfl
        have r7_5 := S.c 0 5 rfl rfl
        have f7_5 := S.f 0 5 rfl
        have r7_6 := S.c 0 6 rfl rfl
        have f7_6 := S.f 0 6 rfl
        have r7_7 := S.c 0 7 rfl rfl
        have f7_7 := S.f 0 7 rfl
        have r7_8 := S.c 0 8 rfl rfl
        have f7_8 := S.f 0 8 rfl
        have r7_9 := S.c 0 9 rfl rfl
        have f7_9 := S.f 0 9 rfl
        have r7_10 := S.c 0 10 rfl rfl
        have f7_10 := S.f 0 10 rfl
        have r7_11 := S.c 0 11 rfl rfl
        have f7_11 := S.f 0 11 rfl
        go_wp2
        replace S := ((((((((((((S.put 0 0 rfl rfl (.bool v1)).put 0 1 rfl rfl (.slice X1 N1 M1)).put 0 2 rfl rfl (.bool u1)).put 0 3 rfl rfl (.slice Y1 K1 L1)).put 0 4 rfl rfl (.bool v2)).put 0 5 rfl rfl (.slice X2 N2 M2)).put 0 6 rfl rfl (.bool u2)).put 0 7 rfl rfl (.slice Y2 K2 L2)).put 0 8 rfl rfl (.bool v0)).put 0 9 rfl rfl (.slice X0 N0 M0)).put 0 10 rfl rfl (.bool u0)).put 0 11 rfl rfl (.slice Y0 K0 L0))
        clear r7_0 f7_0 r7_1 f7_1 r7_2 f7_2 r7_3 f7_3 r7_4 f7_4 r7_5 f7_5 r7_6 f7_6 r7_7 f7_7 r7_8 f7_8 r7_9 f7_9 r7_10 f7_10 r7_11 f7_11
        go_roundg (gk - 1)
        case measure => have := HNX.out.1; omega
        case rel => exact ⟨q1, q2, q0, _, _, _, _, _, _, _, _, _, _, _, _, _, _, _, _, _, _, _, _, _, _, _, _, (((S.onlyL.addQ (S.qi 3 rfl)).addQ (S.qi 1 rfl)).addQ (S.qi 0 rfl)).addQ (S.qi 2 rfl), Lib.hid HNX.out.2⟩
      ·have HFI := Lib.hid (HRO.out.first ha)
       have HW1 := Lib.hid hw
       have HC1 := Lib.hid (fun (s : Int) (h : q0.num.sign = s) => sgT hc1 h)
       have HC3 := Lib.hid (fun (s : Int) (h : q1.num.sign = s) => sgF hc2 h)
       have HC4 := Lib.hid (fun (s : Int) (h : q2.num.sign = s) => sgF hc3 h)
       have HC2 : Hid ((up3 == 1) = true) := Lib.hid (by rw [hw]; rfl)
       have HC5 : Hid ((up3 == 2) = false) := Lib.hid (by rw [hw]; rfl)
       have HNZ := Lib.hid (sh_nz1 hc1 hc2 hc3)
       clear hw hc1 hc2 hc3 ha
       have y0 := szR_share q0 q1 q2
       have y1 := szR_add su (q0 * q0 / ((q0 - q1) * (q0 - q2)))
       obtain ⟨s1, hs1⟩ : ∃ s, q0.num.sign = s := ⟨_, rfl⟩
       obtain ⟨s2, hs2⟩ : ∃ s, q1.num.sign = s := ⟨_, rfl⟩
       obtain ⟨s3, hs3⟩ : ∃ s, q2.num.sign = s := ⟨_, rfl⟩
       have t1 : decide (0 < s1) = true := by exact HC1.out _ hs1
       have t2 : (up3 == 1) = true := by exact HC2.out
       have t3 : decide (0 < s2) = false := by exact HC3.out _ hs2
       have t4 : decide (0 < s3) = false := by exact HC4.out _ hs3
       have t5 : (up3 == 2) = false := by exact HC5.out
       have HS1 := Lib.hid hs1
       clear hs1
       have HS2 := Lib.hid hs2
       clear hs2
       have HS3 := Lib.hid hs3
       clear hs3
       go_upto_region 14 with fail
       refine wp_region_steps (m := 18) rfl (by kernel_rfl) (fun iF vF wF => (List.getD [ve (.pointer (some ⟨P6 + 1, 0, none⟩)), ve (.agg #[.bool v0, .slice X0 N0 M0, .bool u0, .slice Y0 K0 L0]), ve (.int .i64 s1), ve (.bool true), ve (.int .i64 up3), ve (.bool true), ve (.bool false), ve (.bool false), ve (.pointer (some ⟨P6 + 1, 4, none⟩)), ve (.agg #[.bool v1, .slice X1 N1 M1, .bool u1, .slice Y1 K1 L1]), ve (.int .i64 s2), ve (.bool false), ve (.pointer (some ⟨P6 + 1, 8, none⟩)), ve (.agg #[.bool v2, .slice X2 N2 M2, .bool u2, .slice Y2 K2 L2]), ve (.int .i64 s3), ve (.bool false), ve (.bool false), ve (.bool false)] iF (fun _ _ => True)) vF wF) [] ?_ ?_ ?_
       ·intro i v w w' _ h hk
        refine stabL_get ?_ i v w w' h hk
        exact stab_cons st_e (stab_cons st_e (stab_cons st_e (stab_cons st_e (stab_cons st_e (stab_cons st_e (stab_cons st_e (stab_cons st_e (stab_cons st_e (stab_cons st_e (stab_cons st_e (stab_cons st_e (stab_cons st_e (stab_cons st_e (stab_cons st_e (stab_cons st_e (stab_cons st_e (stab_cons st_e stab_nil)))))))))))))))))
       ·intro i hi vs w3 hk3 hd
        have S3 := S.drew.below hk3
        have a0 := S3.c 0 0 rfl rfl
        have a1 := S3.c 0 1 rfl rfl
        have a2 := S3.c 0 2 rfl rfl
        have a3 := S3.c 0 3 rfl rfl
        have a4 := S3.c 0 4 rfl rfl
        have a5 := S3.c 0 5 rfl rfl
        have a6 := S3.c 0 6 rfl rfl
        have a7 := S3.c 0 7 rfl rfl
        have a8 := S3.c 0 8 rfl rfl
        have a9 := S3.c 0 9 rfl rfl
        have a10 := S3.c 0 10 rfl rfl
        have a11 := S3.c 0 11 rfl rfl
        match i, hi with
        | 0, _ =>
         refine sv0 [] (ve (.pointer (some ⟨P6 + 1, 0, none⟩))) rfl fun K hK => ?_; clear hd; simp only [frD] at hK ⊢; go_simp
         exact hK _ _ bl rfl
        | 1, _ =>
         have qe0 : (vs 0) = .pointer (some ⟨P6 + 1, 0, none⟩) := hdk hd 0
         refine sv0 [(0, some 55)] (ve (.agg #[.bool v0, .slice X0 N0 M0, .bool u0, .slice Y0 K0 L0])) rfl fun K hK => ?_; clear hd; simp only [frD, qe0] at hK ⊢; go_simp
         exact hK _ _ bl rfl
        | 2, _ =>
         have qe1 : (vs 1) = .agg #[.bool v0, .slice X0 N0 M0, .bool u0, .slice Y0 K0 L0] := hdk hd 1
         refine sc (A := #[(vs 1)]) (B := #[.agg #[.bool v0, .slice X0 N0 M0, .bool u0, .slice Y0 K0 L0]]) [(1, some 56)] (ve (.int .i64 s1)) rfl (wanted_none rfl) (by rw [qe1]) Tryz.func74 ?_
         refine ((fsign_s ((S3.qi 2 rfl).num (by omega)) HS1.out)).mono ?_; rintro e w4 ⟨rfl, hk4⟩; exact ⟨_, rfl, hk4, rfl⟩
        | 3, _ =>
         have qe2 : (vs 2) = .int .i64 s1 := hdk hd 2
         refine sv0 [(2, some 57)] (ve (.bool true)) rfl fun K hK => ?_; clear hd; simp only [frD, qe2] at hK ⊢; go_simp
         exact hK _ _ bl rfl
        | 4, _ =>
         refine sv0 [] (ve (.int .i64 up3)) rfl fun K hK => ?_; clear hd; simp only [frD] at hK ⊢; go_simp
         exact hK _ _ bl rfl
        | 5, _ =>
         have qe4 : (vs 4) = .int .i64 up3 := hdk hd 4
         refine sv0 [(4, some 59)] (ve (.bool true)) rfl fun K hK => ?_; clear hd; simp only [frD, qe4] at hK ⊢; go_simp
         exact hK _ _ bl rfl
        | 6, _ =>
         have qe3 : (vs 3) = .bool true := hdk hd 3; have qe5 : (vs 5) = .bool true := hdk hd 5
         refine sv0 [(3, some 58), (5, some 60)] (ve (.bool false)) rfl fun K hK => ?_; clear hd; simp only [frD, qe3, qe5] at hK ⊢; go_simp
         exact hK _ _ bl rfl
        | 7, _ =>
         have qe2 : (vs 2) = .int .i64 s1 := hdk hd 2; have qe6 : (vs 6) = .bool false := hdk hd 6
         refine sv0 [(2, some 57), (6, some 61)] (ve (.bool false)) rfl fun K hK => ?_; clear hd; simp only [frD, qe2, qe6] at hK ⊢; go_simp
         exact hK _ _ bl rfl
        | 8, _ =>
         have qe7 : (vs 7) = .bool false := hdk hd 7
         refine svg [(7, some 62)] (ve (.pointer (some ⟨P6 + 1, 4, none⟩))) rfl (ws 62 qe7) fun K hK => ?_; clear hd; simp only [frD, qe7] at hK ⊢; go_simp
         exact hK _ _ bl rfl
        | 9, _ =>
         have qe7 : (vs 7) = .bool false := hdk hd 7; have qe8 : (vs 8) = .pointer (some ⟨P6 + 1, 4, none⟩) := hdk hd 8
         refine svg [(7, some 62), (8, some 63)] (ve (.agg #[.bool v1, .slice X1 N1 M1, .bool u1, .slice Y1 K1 L1])) rfl (ws 62 qe7) fun K hK => ?_; clear hd; simp only [frD, qe7, qe8] at hK ⊢; go_simp
         exact hK _ _ bl rfl
        | 10, _ =>
         have qe7 : (vs 7) = .bool false := hdk hd 7; have qe9 : (vs 9) = .agg #[.bool v1, .slice X1 N1 M1, .bool u1, .slice Y1 K1 L1] := hdk hd 9
         refine sc (A := #[(vs 9)]) (B := #[.agg #[.bool v1, .slice X1 N1 M1, .bool u1, .slice Y1 K1 L1]]) [(7, some 62), (9, some 64)] (ve (.int .i64 s2)) rfl (ws 62 qe7) (by rw [qe9]) Tryz.func74 ?_
         refine ((fsign_s ((S3.qi 1 rfl).num (by omega)) HS2.out)).mono ?_; rintro e w4 ⟨rfl, hk4⟩; exact ⟨_, rfl, hk4, rfl⟩
        | 11, _ =>
         have qe7 : (vs 7) = .bool false := hdk hd 7; have qe10 : (vs 10) = .int .i64 s2 := hdk hd 10
         refine svg [(7, some 62), (10, some 65)] (ve (.bool false)) rfl (ws 62 qe7) fun K hK => ?_; clear hd; simp only [frD, qe7, qe10] at hK ⊢; go_simp
         exact hK _ _ bl rfl
        | 12, _ =>
         have qe7 : (vs 7) = .bool false := hdk hd 7
         refine svg [(7, some 62)] (ve (.pointer (some ⟨P6 + 1, 8, none⟩))) rfl (ws 62 qe7) fun K hK => ?_; clear hd; simp only [frD, qe7] at hK ⊢; go_simp
         exact hK _ _ bl rfl
        | 13, _ =>
         have qe7 : (vs 7) = .bool false := hdk hd 7; have qe12 : (vs 12) = .pointer (some ⟨P6 + 1, 8, none⟩) := hdk hd 12
         refine svg [(7, some 62), (12, some 67)] (ve (.agg #[.bool v2, .slice X2 N2 M2, .bool u2, .slice Y2 K2 L2])) rfl (ws 62 qe7) fun K hK => ?_; clear hd; simp only [frD, qe7, qe12] at hK ⊢; go_simp
         exact hK _ _ bl rfl
        | 14, _ =>
         have qe7 : (vs 7) = .bool false := hdk hd 7; have qe10 : (vs 10) = .int .i64 s2 := hdk hd 10; have qe13 : (vs 13) = .agg #[.bool v2, .slice X2 N2 M2, .bool u2, .slice Y2 K2 L2] := hdk hd 13
         refine sc (A := #[(vs 13)]) (B := #[.agg #[.bool v2, .slice X2 N2 M2, .bool u2, .slice Y2 K2 L2]]) [(7, some 62), (10, some 65), (13, some 68)] (ve (.int .i64 s3)) rfl (ws 62 qe7) (by rw [qe13]) Tryz.func74 ?_
         refine ((fsign_s ((S3.qi 0 rfl).num (by omega)) HS3.out)).mono ?_; rintro e w4 ⟨rfl, hk4⟩; exact ⟨_, rfl, hk4, rfl⟩
        | 15, _ =>
         have qe7 : (vs 7) = .bool false := hdk hd 7; have qe14 : (vs 14) = .int .i64 s3 := hdk hd 14
         refine svg [(7, some 62), (14, some 69)] (ve (.bool false)) rfl (ws 62 qe7) fun K hK => ?_; clear hd; simp only [frD, qe7, qe14] at hK ⊢; go_simp
         exact hK _ _ bl rfl
        | 16, _ =>
         have qe7 : (vs 7) = .bool false := hdk hd 7; have qe11 : (vs 11) = .bool false := hdk hd 11; have qe15 : (vs 15) = .bool false := hdk hd 15
         refine svg [(7, some 62), (11, some 66), (15, some 70)] (ve (.bool false)) rfl (ws 62 qe7) fun K hK => ?_; clear hd; simp only [frD, qe7, qe11, qe15] at hK ⊢; go_simp
         exact hK _ _ bl rfl
        | 17, _ =>
         have qe7 : (vs 7) = .bool false := hdk hd 7; have qe16 : (vs 16) = .bool false := hdk hd 16
         refine sv0 [(7, some 62), (16, some 71)] (ve (.bool false)) rfl fun K hK => ?_; clear hd; simp only [frD, qe7, qe16] at hK ⊢; go_simp
         exact hK _ _ bl rfl
        | i + 18, hi => exact absurd hi (by omega)
       ·intro vs W41 hk3 hΦ _
        simp only [List.drop_succ_cons, List.drop_zero]
        rw [fr_frD, show (List.range 18).map _ = [(0, some 55), (1, some 56), (2, some 57), (3, some 58), (4, some 59), (5, some 60), (6, some 61), (7, some 62), (8, some 63), (9, some 64), (10, some 65), (11, some 66), (12, some 67), (13, some 68), (14, some 69), (15, some 70), (16, some 71), (17, some 72)] by kernel_rfl]
        have pj0 : (vs 0) = .pointer (some ⟨P6 + 1, 0, none⟩) := hΦ 0 (by decide)
        have pj1 : (vs 1) = .agg #[.bool v0, .slice X0 N0 M0, .bool u0, .slice Y0 K0 L0] := hΦ 1 (by decide)
        have pj2 : (vs 2) = .int .i64 s1 := hΦ 2 (by decide)
        have pj3 : (vs 3) = .bool true := hΦ 3 (by decide)
        have pj4 : (vs 4) = .int .i64 up3 := hΦ 4 (by decide)
        have pj5 : (vs 5) = .bool true := hΦ 5 (by decide)
        have pj6 : (vs 6) = .bool false := hΦ 6 (by decide)
        have pj7 : (vs 7) = .bool false := hΦ 7 (by decide)
        have pj8 : (vs 8) = .pointer (some ⟨P6 + 1, 4, none⟩) := hΦ 8 (by decide)
        have pj9 : (vs 9) = .agg #[.bool v1, .slice X1 N1 M1, .bool u1, .slice Y1 K1 L1] := hΦ 9 (by decide)
        have pj10 : (vs 10) = .int .i64 s2 := hΦ 10 (by decide)
        have pj11 : (vs 11) = .bool false := hΦ 11 (by decide)
        have pj12 : (vs 12) = .pointer (some ⟨P6 + 1, 8, none⟩) := hΦ 12 (by decide)
        have pj13 : (vs 13) = .agg #[.bool v2, .slice X2 N2 M2, .bool u2, .slice Y2 K2 L2] := hΦ 13 (by decide)
        have pj14 : (vs 14) = .int .i64 s3 := hΦ 14 (by decide)
        have pj15 : (vs 15) = .bool false := hΦ 15 (by decide)
        have pj16 : (vs 16) = .bool false := hΦ 16 (by decide)
        have pj17 : (vs 17) = .bool false := hΦ 17 (by decide)
        clear hΦ
        simp only [frD, pj0, pj1, pj2, pj3, pj4, pj5, pj6, pj7, pj8, pj9, pj10, pj11, pj12, pj13, pj14, pj15, pj16, pj17]
        simp only [Act.put, List.setIfInBounds_toArray, List.set_cons_zero, List.set_cons_succ]
        clear pj0 pj1 pj2 pj3 pj4 pj5 pj6 pj7 pj8 pj9 pj10 pj11 pj12 pj13 pj14 pj15 pj16 pj17
        replace S := S.drew.below hk3
        clear hk3
        have r2_0 := S.c 5 0 rfl rfl
        have r7_0 := S.c 0 0 rfl rfl
        have r7_1 := S.c 0 1 rfl rfl
        have r7_2 := S.c 0 2 rfl rfl
        have r7_3 := S.c 0 3 rfl rfl
        have r7_4 := S.c 0 4 rfl rfl
        have r7_5 := S.c 0 5 rfl rfl
        have r7_6 := S.c 0 6 rfl rfl
        have r7_7 := S.c 0 7 rfl rfl
        have r7_8 := S.c 0 8 rfl rfl
        have r7_9 := S.c 0 9 rfl rfl
        have r7_10 := S.c 0 10 rfl rfl
        have r7_11 := S.c 0 11 rfl rfl
        go_wp2_with fail
        refine ((cshare_num ((S.qi 2 rfl).num (by omega)) ((S.qi 1 rfl).num (by omega)) ((S.qi 0 rfl).num (by omega)) (by omega) (by omega) (by omega) (HNZ.out))).mono ?_
        rintro e W42 ⟨U42, rfl, hp, hk⟩
        obtain ⟨b43, A43, n43, c43, d43, B43, m43, e43, rfl⟩ := hp.open_
        replace S := (S.below hk).addQ hp
        clear hk hp
        clear r2_0 r7_0 r7_1 r7_2 r7_3 r7_4 r7_5 r7_6 r7_7 r7_8 r7_9 r7_10 r7_11
        go_upto_region 19 with fail
        replace S := (S.alloc 35 [.bool b43, .slice A43 n43 c43, .bool d43, .slice B43 m43 e43])
        obtain ⟨W43, eW, S⟩ := S.pack
        rw [eW]
        clear eW
        generalize W42.heap.size = P41 at *
        obtain ⟨r5_0, r5_1, r5_2, r5_3⟩ := S.cc4 3 rfl
        obtain ⟨r8_0, r8_1, r8_2, r8_3⟩ := S.cc4 0 rfl
        go_wp2_with fail
        refine ((fadd_num ((S.qi 4 rfl).num (by omega)) ((S.qi 0 rfl).num (by omega)))).mono ?_
        rintro e W44 ⟨U44, rfl, hp, hk⟩
        obtain ⟨b44, A44, n44, c44, d44, B44, m44, e44, rfl⟩ := hp.open_
        replace S := (S.below hk).addQ hp
        clear hk hp
        clear r5_0 r5_1 r5_2 r5_3 r8_0 r8_1 r8_2 r8_3
        have r5_0 := S.c 3 0 rfl rfl
        have f5_0 := S.f 3 0 rfl
        have r5_1 := S.c 3 1 rfl rfl
        have f5_1 := S.f 3 1 rfl
        have r5_2 := S.c 3 2 rfl rfl
        have f5_2 := S.f 3 2 rfl
        have r5_3 := S.c 3 3 rfl rfl
        have f5_3 := S.f 3 3 rfl
        go_wp2
        replace S := (S.put4 3 rfl rfl rfl (x' := .bool b44) (y' := .slice A44 n44 c44) (z' := .bool d44) (u' := .slice B44 m44 e44))
        refine bodyPost_end (results_none rfl _ _ _) rfl ?_
        exact ⟨rfl, _, _, _, _, _, _, _, _, by rw [cT_1 (HP3C.out.trans HW1.out) HFI.out]; exact S.dropb.dropb.dropb.onlyL.addQ (S.qi 0 rfl)⟩
      ·have HFI := Lib.hid (HRO.out.first ha)
       have HW1 := Lib.hid hw
       have HC1 := Lib.hid (fun (s : Int) (h : q0.num.sign = s) => sgF hc1 h)
       have HC3 := Lib.hid (fun (s : Int) (h : q1.num.sign = s) => sgT hc2 h)
       have HC4 := Lib.hid (fun (s : Int) (h : q2.num.sign = s) => sgT hc3 h)
       have HC2 : Hid ((up3 == 1) = false) := Lib.hid (by rw [hw]; rfl)
       have HC5 : Hid ((up3 == 2) = true) := Lib.hid (by rw [hw]; rfl)
       have HNZ := Lib.hid (sh_nz2 hc1 hc2 hc3)
       clear hw hc1 hc2 hc3 ha
       have y0 := szR_share q0 q1 q2
       have y1 := szR_one_sub (q0 * q0 / ((q0 - q1) * (q0 - q2)))
       have y2 := szR_add su (1 - (q0 * q0 / ((q0 - q1) * (q0 - q2))))
       obtain ⟨s1, hs1⟩ : ∃ s, q0.num.sign = s := ⟨_, rfl⟩
       obtain ⟨s2, hs2⟩ : ∃ s, q1.num.sign = s := ⟨_, rfl⟩
       obtain ⟨s3, hs3⟩ : ∃ s, q2.num.sign = s := ⟨_, rfl⟩
       have t1 : decide (0 < s1) = false := by exact HC1.out _ hs1
       have t2 : (up3 == 1) = false := by exact HC2.out
       have t3 : decide (0 < s2) = true := by exact HC3.out _ hs2
       have t4 : decide (0 < s3) = true := by exact HC4.out _ hs3
       have t5 : (up3 == 2) = true := by exact HC5.out
       have HS1 := Lib.hid hs1
       clear hs1
       have HS2 := Lib.hid hs2
       clear hs2
       have HS3 := Lib.hid hs3
       clear hs3
       go_upto_region 14 with fail
       refine wp_region_steps (m := 18) rfl (by kernel_rfl) (fun iF vF wF => (List.getD [ve (.pointer (some ⟨P6 + 1, 0, none⟩)), ve (.agg #[.bool v0, .slice X0 N0 M0, .bool u0, .slice Y0 K0 L0]), ve (.int .i64 s1), ve (.bool false), ve (.int .i64 up3), ve (.bool false), ve (.bool false), ve (.bool false), ve (.pointer (some ⟨P6 + 1, 4, none⟩)), ve (.agg #[.bool v1, .slice X1 N1 M1, .bool u1, .slice Y1 K1 L1]), ve (.int .i64 s2), ve (.bool true), ve (.pointer (some ⟨P6 + 1, 8, none⟩)), ve (.agg #[.bool v2, .slice X2 N2 M2, .bool u2, .slice Y2 K2 L2]), ve (.int .i64 s3), ve (.bool true), ve (.bool false), ve (.bool false)] iF (fun _ _ => True)) vF wF) [] ?_ ?_ ?_
       ·intro i v w w' _ h hk
        refine stabL_get ?_ i v w w' h hk
        exact stab_cons st_e (stab_cons st_e (stab_cons st_e (stab_cons st_e (stab_cons st_e (stab_cons st_e (stab_cons st_e (stab_cons st_e (stab_cons st_e (stab_cons st_e (stab_cons st_e (stab_cons st_e (stab_cons st_e (stab_cons st_e (stab_cons st_e (stab_cons st_e (stab_cons st_e (stab_cons st_e stab_nil)))))))))))))))))
       ·intro i hi vs w3 hk3 hd
        have S3 := S.drew.below hk3
        have a0 := S3.c 0 0 rfl rfl
        have a1 := S3.c 0 1 rfl rfl
        have a2 := S3.c 0 2 rfl rfl
        have a3 := S3.c 0 3 rfl rfl
        have a4 := S3.c 0 4 rfl rfl
        have a5 := S3.c 0 5 rfl rfl
        have a6 := S3.c 0 6 rfl rfl
        have a7 := S3.c 0 7 rfl rfl
        have a8 := S3.c 0 8 rfl rfl
        have a9 := S3.c 0 9 rfl rfl
        have a10 := S3.c 0 10 rfl rfl
        have a11 := S3.c 0 11 rfl rfl
        match i, hi with
        | 0, _ =>
         refine sv0 [] (ve (.pointer (some ⟨P6 + 1, 0, none⟩))) rfl fun K hK => ?_; clear hd; simp only [frD] at hK ⊢; go_simp
         exact hK _ _ bl rfl
        | 1, _ =>
         have qe0 : (vs 0) = .pointer (some ⟨P6 + 1, 0, none⟩) := hdk hd 0
         refine sv0 [(0, some 55)] (ve (.agg #[.bool v0, .slice X0 N0 M0, .bool u0, .slice Y0 K0 L0])) rfl fun K hK => ?_; clear hd; simp only [frD, qe0] at hK ⊢; go_simp
         exact hK _ _ bl rfl
        | 2, _ =>
         have qe1 : (vs 1) = .agg #[.bool v0, .slice X0 N0 M0, .bool u0, .slice Y0 K0 L0] := hdk hd 1
         refine sc (A := #[(vs 1)]) (B := #[.agg #[.bool v0, .slice X0 N0 M0, .bool u0, .slice Y0 K0 L0]]) [(1, some 56)] (ve (.int .i64 s1)) rfl (wanted_none rfl) (by rw [qe1]) Tryz.func74 ?_
         refine ((fsign_s ((S3.qi 2 rfl).num (by omega)) HS1.out)).mono ?_; rintro e w4 ⟨rfl, hk4⟩; exact ⟨_, rfl, hk4, rfl⟩
        | 3, _ =>
         have qe2 : (vs 2) = .int .i64 s1 := hdk hd 2
         refine sv0 [(2, some 57)] (ve (.bool false)) rfl fun K hK => ?_; clear hd; simp only [frD, qe2] at hK ⊢; go_simp
         exact hK _ _ bl rfl
        | 4, _ =>
         refine sv0 [] (ve (.int .i64 up3)) rfl fun K hK => ?_; clear hd; simp only [frD] at hK ⊢; go_simp
         exact hK _ _ bl rfl
        | 5, _ =>
         have qe4 : (vs 4) = .int .i64 up3 := hdk hd 4
         refine sv0 [(4, some 59)] (ve (.bool false)) rfl fun K hK => ?_; clear hd; simp only [frD, qe4] at hK ⊢; go_simp
         exact hK _ _ bl rfl
        | 6, _ =>
         have qe3 : (vs 3) = .bool false := hdk hd 3; have qe5 : (vs 5) = .bool false := hdk hd 5
         refine sv0 [(3, some 58), (5, some 60)] (ve (.bool false)) rfl fun K hK => ?_; clear hd; simp only [frD, qe3, qe5] at hK ⊢; go_simp
         exact hK _ _ bl rfl
        | 7, _ =>
         have qe2 : (vs 2) = .int .i64 s1 := hdk hd 2; have qe6 : (vs 6) = .bool false := hdk hd 6
         refine sv0 [(2, some 57), (6, some 61)] (ve (.bool false)) rfl fun K hK => ?_; clear hd; simp only [frD, qe2, qe6] at hK ⊢; go_simp
         exact hK _ _ bl rfl
        | 8, _ =>
         have qe7 : (vs 7) = .bool false := hdk hd 7
         refine svg [(7, some 62)] (ve (.pointer (some ⟨P6 + 1, 4, none⟩))) rfl (ws 62 qe7) fun K hK => ?_; clear hd; simp only [frD, qe7] at hK ⊢; go_simp
         exact hK _ _ bl rfl
        | 9, _ =>
         have qe7 : (vs 7) = .bool false := hdk hd 7; have qe8 : (vs 8) = .pointer (some ⟨P6 + 1, 4, none⟩) := hdk hd 8
         refine svg [(7, some 62), (8, some 63)] (ve (.agg #[.bool v1, .slice X1 N1 M1, .bool u1, .slice Y1 K1 L1])) rfl (ws 62 qe7) fun K hK => ?_; clear hd; simp only [frD, qe7, qe8] at hK ⊢; go_simp
         exact hK _ _ bl rfl
        | 10, _ =>
         have qe7 : (vs 7) = .bool false := hdk hd 7; have qe9 : (vs 9) = .agg #[.bool v1, .slice X1 N1 M1, .bool u1, .slice Y1 K1 L1] := hdk hd 9
         refine sc (A := #[(vs 9)]) (B := #[.agg #[.bool v1, .slice X1 N1 M1, .bool u1, .slice Y1 K1 L1]]) [(7, some 62), (9, some 64)] (ve (.int .i64 s2)) rfl (ws 62 qe7) (by rw [qe9]) Tryz.func74 ?_
         refine ((fsign_s ((S3.qi 1 rfl).num (by omega)) HS2.out)).mono ?_; rintro e w4 ⟨rfl, hk4⟩; exact ⟨_, rfl, hk4, rfl⟩
        | 11, _ =>
         have qe7 : (vs 7) = .bool false := hdk hd 7; have qe10 : (vs 10) = .int .i64 s2 := hdk hd 10
         refine svg [(7, some 62), (10, some 65)] (ve (.bool true)) rfl (ws 62 qe7) fun K hK => ?_; clear hd; simp only [frD, qe7, qe10] at hK ⊢; go_simp
         exact hK _ _ bl rfl
        | 12, _ =>
         have qe7 : (vs 7) = .bool false := hdk hd 7
         refine svg [(7, some 62)] (ve (.pointer (some ⟨P6 + 1, 8, none⟩))) rfl (ws 62 qe7) fun K hK => ?_; clear hd; simp only [frD, qe7] at hK ⊢; go_simp
         exact hK _ _ bl rfl
        | 13, _ =>
         have qe7 : (vs 7) = .bool false := hdk hd 7; have qe12 : (vs 12) = .pointer (some ⟨P6 + 1, 8, none⟩) := hdk hd 12
         refine svg [(7, some 62), (12, some 67)] (ve (.agg #[.bool v2, .slice X2 N2 M2, .bool u2, .slice Y2 K2 L2])) rfl (ws 62 qe7) fun K hK => ?_; clear hd; simp only [frD, qe7, qe12] at hK ⊢; go_simp
         exact hK _ _ bl rfl
        | 14, _ =>
         have qe7 : (vs 7) = .bool false := hdk hd 7; have qe10 : (vs 10) = .int .i64 s2 := hdk hd 10; have qe13 : (vs 13) = .agg #[.bool v2, .slice X2 N2 M2, .bool u2, .slice Y2 K2 L2] := hdk hd 13
         refine sc (A := #[(vs 13)]) (B := #[.agg #[.bool v2, .slice X2 N2 M2, .bool u2, .slice Y2 K2 L2]]) [(7, some 62), (10, some 65), (13, some 68)] (ve (.int .i64 s3)) rfl (ws 62 qe7) (by rw [qe13]) Tryz.func74 ?_
         refine ((fsign_s ((S3.qi 0 rfl).num (by omega)) HS3.out)).mono ?_; rintro e w4 ⟨rfl, hk4⟩; exact ⟨_, rfl, hk4, rfl⟩
        | 15, _ =>
         have qe7 : (vs 7) = .bool false := hdk hd 7; have qe14 : (vs 14) = .int .i64 s3 := hdk hd 14
         refine svg [(7, some 62), (14, some 69)] (ve (.bool true)) rfl (ws 62 qe7) fun K hK => ?_; clear hd; simp only [frD, qe7, qe14] at hK ⊢; go_simp
         exact hK _ _ bl rfl
        | 16, _ =>
         have qe7 : (vs 7) = .bool false := hdk hd 7; have qe11 : (vs 11) = .bool true := hdk hd 11; have qe15 : (vs 15) = .bool true := hdk hd 15
         refine svg [(7, some 62), (11, some 66), (15, some 70)] (ve (.bool false)) rfl (ws 62 qe7) fun K hK => ?_; clear hd; simp only [frD, qe7, qe11, qe15] at hK ⊢; go_simp
         exact hK _ _ bl rfl
        | 17, _ =>
         have qe7 : (vs 7) = .bool false := hdk hd 7; have qe16 : (vs 16) = .bool false := hdk hd 16
         refine sv0 [(7, some 62), (16, some 71)] (ve (.bool false)) rfl fun K hK => ?_; clear hd; simp only [frD, qe7, qe16] at hK ⊢; go_simp
         exact hK _ _ bl rfl
        | i + 18, hi => exact absurd hi (by omega)
       ·intro vs W41 hk3 hΦ _
        simp only [List.drop_succ_cons, List.drop_zero]
        rw [fr_frD, show (List.range 18).map _ = [(0, some 55), (1, some 56), (2, some 57), (3, some 58), (4, some 59), (5, some 60), (6, some 61), (7, some 62), (8, some 63), (9, some 64), (10, some 65), (11, some 66), (12, some 67), (13, some 68), (14, some 69), (15, some 70), (16, some 71), (17, some 72)] by kernel_rfl]
        have pj0 : (vs 0) = .pointer (some ⟨P6 + 1, 0, none⟩) := hΦ 0 (by decide)
        have pj1 : (vs 1) = .agg #[.bool v0, .slice X0 N0 M0, .bool u0, .slice Y0 K0 L0] := hΦ 1 (by decide)
        have pj2 : (vs 2) = .int .i64 s1 := hΦ 2 (by decide)
        have pj3 : (vs 3) = .bool false := hΦ 3 (by decide)
        have pj4 : (vs 4) = .int .i64 up3 := hΦ 4 (by decide)
        have pj5 : (vs 5) = .bool false := hΦ 5 (by decide)
        have pj6 : (vs 6) = .bool false := hΦ 6 (by decide)
        have pj7 : (vs 7) = .bool false := hΦ 7 (by decide)
        have pj8 : (vs 8) = .pointer (some ⟨P6 + 1, 4, none⟩) := hΦ 8 (by decide)
        have pj9 : (vs 9) = .agg #[.bool v1, .slice X1 N1 M1, .bool u1, .slice Y1 K1 L1] := hΦ 9 (by decide)
        have pj10 : (vs 10) = .int .i64 s2 := hΦ 10 (by decide)
        have pj11 : (vs 11) = .bool true := hΦ 11 (by decide)
        have pj12 : (vs 12) = .pointer (some ⟨P6 + 1, 8, none⟩) := hΦ 12 (by decide)
        have pj13 : (vs 13) = .agg #[.bool v2, .slice X2 N2 M2, .bool u2, .slice Y2 K2 L2] := hΦ 13 (by decide)
        have pj14 : (vs 14) = .int .i64 s3 := hΦ 14 (by decide)
        have pj15 : (vs 15) = .bool true := hΦ 15 (by decide)
        have pj16 : (vs 16) = .bool false := hΦ 16 (by decide)
        have pj17 : (vs 17) = .bool false := hΦ 17 (by decide)
        clear hΦ
        simp only [frD, pj0, pj1, pj2, pj3, pj4, pj5, pj6, pj7, pj8, pj9, pj10, pj11, pj12, pj13, pj14, pj15, pj16, pj17]
        simp only [Act.put, List.setIfInBounds_toArray, List.set_cons_zero, List.set_cons_succ]
        clear pj0 pj1 pj2 pj3 pj4 pj5 pj6 pj7 pj8 pj9 pj10 pj11 pj12 pj13 pj14 pj15 pj16 pj17
        replace S := S.drew.below hk3
        clear hk3
        have r2_0 := S.c 5 0 rfl rfl
        have r7_0 := S.c 0 0 rfl rfl
        have r7_1 := S.c 0 1 rfl rfl
        have r7_2 := S.c 0 2 rfl rfl
        have r7_3 := S.c 0 3 rfl rfl
        have r7_4 := S.c 0 4 rfl rfl
        have r7_5 := S.c 0 5 rfl rfl
        have r7_6 := S.c 0 6 rfl rfl
        have r7_7 := S.c 0 7 rfl rfl
        have r7_8 := S.c 0 8 rfl rfl
        have r7_9 := S.c 0 9 rfl rfl
        have r7_10 := S.c 0 10 rfl rfl
        have r7_11 := S.c 0 11 rfl rfl
        go_wp2_with fail
        refine ((cshare_num ((S.qi 2 rfl).num (by omega)) ((S.qi 1 rfl).num (by omega)) ((S.qi 0 rfl).num (by omega)) (by omega) (by omega) (by omega) (HNZ.out))).mono ?_
        rintro e W42 ⟨U42, rfl, hp, hk⟩
        obtain ⟨b43, A43, n43, c43, d43, B43, m43, e43, rfl⟩ := hp.open_
        replace S := (S.below hk).addQ hp
        clear hk hp
        clear r2_0 r7_0 r7_1 r7_2 r7_3 r7_4 r7_5 r7_6 r7_7 r7_8 r7_9 r7_10 r7_11
        go_upto_region 18 with fail
        replace S := (S.alloc 35 [.bool b43, .slice A43 n43 c43, .bool d43, .slice B43 m43 e43])
        obtain ⟨W43, eW, S⟩ := S.pack
        rw [eW]
        clear eW
        generalize W42.heap.size = P41 at *
        have r3_0 := S.c 5 0 rfl rfl
        have r7_0 := S.c 1 0 rfl rfl
        have r7_1 := S.c 1 1 rfl rfl
        have r7_2 := S.c 1 2 rfl rfl
        have r7_3 := S.c 1 3 rfl rfl
        have r7_4 := S.c 1 4 rfl rfl
        have r7_5 := S.c 1 5 rfl rfl
        have r7_6 := S.c 1 6 rfl rfl
        have r7_7 := S.c 1 7 rfl rfl
        have r7_8 := S.c 1 8 rfl rfl
        have r7_9 := S.c 1 9 rfl rfl
        have r7_10 := S.c 1 10 rfl rfl
        have r7_11 := S.c 1 11 rfl rfl
        obtain ⟨r8_0, r8_1, r8_2, r8_3⟩ := S.cc4 0 rfl
        go_wp2_with fail
        refine ((cabove1_num ((S.qi 3 rfl).num (by omega)) ((S.qi 2 rfl).num (by omega)) ((S.qi 1 rfl).num (by omega)) ((S.qi 0 rfl).num (by omega)) (by omega))).mono ?_
        rintro e W44 ⟨U44, rfl, hp, hk⟩
        obtain ⟨b44, A44, n44, c44, d44, B44, m44, e44, rfl⟩ := hp.open_
        replace S := (S.below hk).addQ hp
        clear hk hp
        clear r3_0 r7_0 r7_1 r7_2 r7_3 r7_4 r7_5 r7_6 r7_7 r7_8 r7_9 r7_10 r7_11 r8_0 r8_1 r8_2 r8_3
        have r8_0 := S.c 0 0 rfl rfl
        have f8_0 := S.f 0 0 rfl
        have r8_1 := S.c 0 1 rfl rfl
        have f8_1 := S.f 0 1 rfl
        have r8_2 := S.c 0 2 rfl rfl
        have f8_2 := S.f 0 2 rfl
        have r8_3 := S.c 0 3 rfl rfl
        have f8_3 := S.f 0 3 rfl
        go_upto_region 19 with fail
        replace S := (S.put4 0 rfl rfl rfl (x' := .bool b44) (y' := .slice A44 n44 c44) (z' := .bool d44) (u' := .slice B44 m44 e44))
        obtain ⟨W45, eW, S⟩ := S.pack
        rw [eW]
        clear eW
        clear r8_0 f8_0 r8_1 f8_1 r8_2 f8_2 r8_3 f8_3
        obtain ⟨r5_0, r5_1, r5_2, r5_3⟩ := S.cc4 3 rfl
        obtain ⟨r8_0, r8_1, r8_2, r8_3⟩ := S.cc4 0 rfl
        go_wp2_with fail
        refine ((fadd_num ((S.qi 5 rfl).num (by omega)) ((S.qi 0 rfl).num (by omega)))).mono ?_
        rintro e W46 ⟨U46, rfl, hp, hk⟩
        obtain ⟨b45, A45, n45, c45, d45, B45, m45, e45, rfl⟩ := hp.open_
        replace S := (S.below hk).addQ hp
        clear hk hp
        clear r5_0 r5_1 r5_2 r5_3 r8_0 r8_1 r8_2 r8_3
        have r5_0 := S.c 3 0 rfl rfl
        have f5_0 := S.f 3 0 rfl
        have r5_1 := S.c 3 1 rfl rfl
        have f5_1 := S.f 3 1 rfl
        have r5_2 := S.c 3 2 rfl rfl
        have f5_2 := S.f 3 2 rfl
        have r5_3 := S.c 3 3 rfl rfl
        have f5_3 := S.f 3 3 rfl
        go_wp2
        replace S := (S.put4 3 rfl rfl rfl (x' := .bool b45) (y' := .slice A45 n45 c45) (z' := .bool d45) (u' := .slice B45 m45 e45))
        refine bodyPost_end (results_none rfl _ _ _) rfl ?_
        exact ⟨rfl, _, _, _, _, _, _, _, _, by rw [cT_2 (HP3C.out.trans HW1.out) HFI.out]; exact S.dropb.dropb.dropb.onlyL.addQ (S.qi 0 rfl)⟩
end Go.Proofs.YtecibfncnaccjaaGreat
