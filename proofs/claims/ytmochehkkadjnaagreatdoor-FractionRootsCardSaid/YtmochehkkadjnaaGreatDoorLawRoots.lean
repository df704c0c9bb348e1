/- The walk of the law FractionRoots. -/
import Derived.Test.YtmochehkkadjnaaGreatDoorLawRounds
import Derived.Test.YtmochehkkadjnaaGreatDoorGRoot
namespace Go.Proofs.YtmochehkkadjnaaGreatDoor
open Go.RowKit Go.Shelf

theorem nat_root (a : Nat) : ∃ s, s * s ≤ a ∧ a < (s + 1) * (s + 1) := by
  induction a with
  | zero => exact ⟨0, by omega, by omega⟩
  | succ a ih =>
    obtain ⟨s, h1, h2⟩ := ih
    by_cases h : a + 1 < (s + 1) * (s + 1)
    · exact ⟨s, by omega, h⟩
    · refine ⟨s + 1, by omega, ?_⟩
      have : (s + 1) * (s + 1) < (s + 1 + 1) * (s + 1 + 1) := Nat.mul_lt_mul_of_lt_of_lt (by omega) (by omega)
      omega
theorem root_exists {z : Int} (h : 0 ≤ z) : ∃ r, IsRoot z r := by
  obtain ⟨a, rfl⟩ := Int.eq_ofNat_of_zero_le h
  obtain ⟨s, h1, h2⟩ := nat_root a
  exact ⟨s, IsRoot.of_nat h1 h2⟩
/-- the square of the root is not above, that of the next multiple is not below -/
theorem rot_facts {x : Rat} {k P : Int} {r : Nat} {z : Int} (h0 : 0 ≤ k) (hk1 : k ≤ 512) (hP : (2 : Int) ^ k.toNat = P) (hx : ¬ x < 0) (zx : szR x ≤ 8) (hr : IsRoot (x * (P : Rat) * (P : Rat)).floor r) (hz : upR r (x * (P : Rat) * (P : Rat)) = z) :
    szR (Rat.divInt (r : Int) P) ≤ 98 ∧ szR (Rat.divInt z P) ≤ 99 ∧ Rat.divInt (r : Int) P * Rat.divInt (r : Int) P ≤ x ∧ x ≤ Rat.divInt z P * Rat.divInt z P := by
  have hPP : 0 < P := by rw [← hP]; exact Int.pow_pos (by decide)
  have hr' := hr
  rw [Rat.mul_assoc] at hr'
  obtain ⟨-, -, -, u4, u5, u6, u7, -⟩ := groot_sizes h0 hk1 hP hx (by omega) hr'
  rw [← Rat.mul_assoc] at u7
  obtain ⟨q1, q2⟩ := upR_eq hPP hr u7
  have s1 := szR_divInt (r : Int) P (by omega)
  have s2 := szR_divInt ((r : Int) + 1) P (by omega)
  have l1 := lenI_pow2 h0 hk1 hP
  have a : (0 : Rat) < (P : Rat) := by rw [← Rat.intCast_zero]; exact Rat.intCast_lt_intCast.2 hPP
  have aa : (0 : Rat) < (P : Rat) * (P : Rat) := Rat.mul_pos a a
  have sq : ∀ t : Int, Rat.divInt t P * Rat.divInt t P * ((P : Rat) * (P : Rat)) = ((t * t : Int) : Rat) := fun t => by
    have e1 := divInt_mul (z := t) hPP
    rw [Rat.intCast_mul, ← e1]; grind
  unfold IsRoot at hr
  rw [if_neg (by omega)] at hr
  have f1 := floor_sq hr.1
  have f2 := floor_sq_lt hr.2
  have g1 : Rat.divInt (r : Int) P * Rat.divInt (r : Int) P ≤ x := by
    refine (mul_iff aa).1 ?_
    rw [sq, ← Rat.mul_assoc]; exact f1
  by_cases he : Rat.divInt (r : Int) P * Rat.divInt (r : Int) P = x
  · rw [q1 he] at hz
    subst hz
    exact ⟨u6, by omega, g1, by rw [he]; exact Rat.le_refl⟩
  · rw [q2 he] at hz
    subst hz
    refine ⟨u6, by omega, g1, (mul_iff aa).1 ?_⟩
    rw [sq, ← Rat.mul_assoc]; exact Rat.le_of_lt f2
/-- what both Roots hand back -/
def RT3 (q r : Rat) (w : World) (e : Ending) (w' : World) : Prop := ∃ Q R, e = .returned (.tuple #[Q, R, .int .i64 0]) ∧ RatRep w' Q q ∧ RatRep w' R r ∧ Keeps w w'
theorem froot_rz {w : World} {V1 : Value} {x : Rat} {k P : Int} {r : Nat} {z : Int} (h1 : RatNum w V1 x) (hl : szR x ≤ 30000) (ht : PowTab w) (h0 : 0 ≤ k) (hk1 : k ≤ 512) (hx : ¬ x < 0) (hP : (2 : Int) ^ k.toNat = P)
    (hr : IsRoot (x * (P : Rat) * (P : Rat)).floor r) (hz : upR r (x * (P : Rat) * (P : Rat)) = z) : Calls Tryz.prog 37 #[V1, .int .i64 k] w (RT3 (Rat.divInt (r : Int) P) (Rat.divInt z P) w) := by
  refine (froot_num h1 hl ht h0 hk1 (Rat.not_lt.1 hx) hP).mono ?_
  rintro e w' ⟨s, Q, R, hs, rfl, g1, g2, hk⟩
  obtain rfl := root_unique hs hr
  exact ⟨Q, R, rfl, g1, by rw [← hz]; exact g2, hk⟩
theorem groot_rz {w : World} {V1 : Value} {x : Rat} {k P : Int} {r : Nat} {z : Int} (h1 : RatNum w V1 x) (hl : szR x ≤ 60) (h0 : 0 ≤ k) (hk1 : k ≤ 512) (hx : ¬ x < 0) (hP : (2 : Int) ^ k.toNat = P)
    (hr : IsRoot (x * (P : Rat) * (P : Rat)).floor r) (hz : upR r (x * (P : Rat) * (P : Rat)) = z) : Calls Tryz.prog 38 #[V1, .int .i64 k] w (RT3 (Rat.divInt (r : Int) P) (Rat.divInt z P) w) := by
  have hPP : 0 < P := by rw [← hP]; exact Int.pow_pos (by decide)
  have hr' := hr
  rw [Rat.mul_assoc] at hr'
  obtain ⟨-, -, -, -, -, -, u7, -⟩ := groot_sizes h0 hk1 hP hx hl hr'
  rw [← Rat.mul_assoc] at u7
  obtain ⟨q1, q2⟩ := upR_eq hPP hr u7
  by_cases he : Rat.divInt (r : Int) P * Rat.divInt (r : Int) P = x
  · rw [q1 he] at hz
    subst hz
    exact groot_eq h1 h0 hk1 hP hx hl hr' he
  · rw [q2 he] at hz
    subst hz
    exact groot_ne h1 h0 hk1 hP hx hl hr' he
theorem groot_bad3 {w : World} {V1 : Value} {x : Rat} {k : Int} (h1 : RatNum w V1 x) (hb : k < 0 ∨ 512 < k ∨ x < 0) : Calls Tryz.prog 38 #[V1, .int .i64 k] w fun e w' => e = .returned (.tuple #[zeroRat, zeroRat, .int .i64 2]) ∧ Keeps w w' := by
  by_cases hk : k < 0 ∨ 512 < k
  · exact groot_bad h1 hk
  · exact groot_neg h1 (by omega) (by omega) (by
      rcases hb with h | h | h
      · exact absurd (.inl h) hk
      · exact absurd (.inr h) hk
      · exact h)
set_option maxRecDepth 100000 in
set_option maxHeartbeats 1000000 in
theorem rot_1 {w : World} {V1 : Value} {x : Rat} (h1 : RatS w V1 x false) {k : Int} (ht : PowTab w) : Calls Tryz.prog 5 #[V1, .int .i64 k] w (fun e w' => e = .returned (.bool true) ∧ Keeps w w') := by
  obtain ⟨b3, A3, n3, c3, d3, B3, m3, e3, rfl⟩ := h1.open_
  have S := ((St.start w).addL h1)
  clear h1
  go_enter Tryz.func5, Tryz.ntmps5
  go_wp2_with fail
  replace S := (S.alloc 28 [.bool b3, .slice A3 n3 c3, .bool d3, .slice B3 m3 e3])
  obtain ⟨W1, eW, S⟩ := S.pack
  rw [eW]
  clear eW
  refine ((known_any _ (ht.keep S.k))).mono ?_
  rintro e W2 ⟨rfl, hk⟩
  replace S := S.below hk
  clear hk
  have r0_0 := S.c 0 0 rfl rfl
  have r0_1 := S.c 0 1 rfl rfl
  have r0_2 := S.c 0 2 rfl rfl
  have r0_3 := S.c 0 3 rfl rfl
  go_wp2_with fail
  refine ((lshort_b (S.li 0 rfl))).mono ?_
  rintro e W3 ⟨rfl, hk⟩
  replace S := S.below hk
  clear hk
  clear r0_0 r0_1 r0_2 r0_3
  go_wp2
  go_ret
  exact ⟨rfl, S.k⟩
set_option maxRecDepth 100000 in
set_option maxHeartbeats 4000000 in
theorem rot_bad {w : World} {V1 : Value} {x : Rat} {k : Int} (h1 : RatS w V1 x true) (ht : PowTab w) (hb : k < 0 ∨ 512 < k ∨ x < 0) : Calls Tryz.prog 5 #[V1, .int .i64 k] w (fun e w' => e = .returned (.bool true) ∧ Keeps w w') := by
  obtain ⟨b3, A3, n3, c3, d3, B3, m3, e3, rfl⟩ := h1.open_
  have z0 := h1.sz
  have HB := Lib.hid hb
  clear hb
  have S := ((St.start w).addL h1)
  clear h1
  go_enter Tryz.func5, Tryz.ntmps5
  go_wp2_with fail
  replace S := (S.alloc 28 [.bool b3, .slice A3 n3 c3, .bool d3, .slice B3 m3 e3])
  obtain ⟨W1, eW, S⟩ := S.pack
  rw [eW]
  clear eW
  refine ((known_any _ (ht.keep S.k))).mono ?_
  rintro e W2 ⟨rfl, hk⟩
  replace S := S.below hk
  clear hk
  have r0_0 := S.c 0 0 rfl rfl
  have r0_1 := S.c 0 1 rfl rfl
  have r0_2 := S.c 0 2 rfl rfl
  have r0_3 := S.c 0 3 rfl rfl
  go_wp2_with fail
  refine ((lshort_b (S.li 0 rfl))).mono ?_
  rintro e W3 ⟨rfl, hk⟩
  replace S := S.below hk
  clear hk
  clear r0_0 r0_1 r0_2 r0_3
  have r0_0 := S.c 0 0 rfl rfl
  have r0_1 := S.c 0 1 rfl rfl
  have r0_2 := S.c 0 2 rfl rfl
  have r0_3 := S.c 0 3 rfl rfl
  go_wp2_with fail
  refine ((froot_bad ((S.li 0 rfl).num) (ht.keep S.k) HB.out)).mono ?_
  rintro e W4 ⟨rfl, hk⟩
  replace S := S.below hk
  clear hk
  clear r0_0 r0_1 r0_2 r0_3
  unfold zeroRat
  go_upto_region 6 with fail
  replace S := ((S.alloc 28 [.bool false, .slice none 0 0, .bool false, .slice none 0 0]).alloc 28 [.bool false, .slice none 0 0, .bool false, .slice none 0 0])
  simp only [World.size_alloc] at S
  obtain ⟨W5, eW, S⟩ := S.pack
  rw [eW]
  clear eW
  generalize W4.heap.size = P1 at *
  have r0_0 := S.c 2 0 rfl rfl
  have r0_1 := S.c 2 1 rfl rfl
  have r0_2 := S.c 2 2 rfl rfl
  have r0_3 := S.c 2 3 rfl rfl
  go_wp2_with fail
  refine ((groot_bad3 ((S.li 0 rfl).num) HB.out)).mono ?_
  rintro e W6 ⟨rfl, hk⟩
  replace S := S.below hk
  clear hk
  clear r0_0 r0_1 r0_2 r0_3
  unfold zeroRat
  go_upto_region 8 with fail
  replace S := ((S.alloc 28 [.bool false, .slice none 0 0, .bool false, .slice none 0 0]).alloc 28 [.bool false, .slice none 0 0, .bool false, .slice none 0 0])
  simp only [World.size_alloc] at S
  obtain ⟨W7, eW, S⟩ := S.pack
  rw [eW]
  clear eW
  generalize W6.heap.size = P2 at *
  have r1_0 := S.c 3 0 rfl rfl
  have r1_1 := S.c 3 1 rfl rfl
  have r1_2 := S.c 3 2 rfl rfl
  have r1_3 := S.c 3 3 rfl rfl
  go_wp2_with fail
  refine ((gzero_s)).mono ?_
  rintro e W8 ⟨rfl, hk⟩
  replace S := S.below hk
  clear hk
  clear r1_0 r1_1 r1_2 r1_3
  have r2_0 := S.c 2 0 rfl rfl
  have r2_1 := S.c 2 1 rfl rfl
  have r2_2 := S.c 2 2 rfl rfl
  have r2_3 := S.c 2 3 rfl rfl
  go_wp2_with fail
  refine ((gzero_s)).mono ?_
  rintro e W9 ⟨rfl, hk⟩
  replace S := S.below hk
  clear hk
  clear r2_0 r2_1 r2_2 r2_3
  go_wp2
  go_ret
  exact ⟨rfl, S.k⟩
set_option maxRecDepth 100000 in
set_option maxHeartbeats 8000000 in
theorem rot_ok {w : World} {V1 : Value} {x : Rat} {k P : Int} {r : Nat} {z : Int} (h1 : RatS w V1 x true) (ht : PowTab w) (h0 : 0 ≤ k) (hk1 : k ≤ 512) (hP : (2 : Int) ^ k.toNat = P) (hx : ¬ x < 0) (hr : IsRoot (x * (P : Rat) * (P : Rat)).floor r) (hz : upR r (x * (P : Rat) * (P : Rat)) = z) : Calls Tryz.prog 5 #[V1, .int .i64 k] w (fun e w' => e = .returned (.bool true) ∧ Keeps w w') := by
  obtain ⟨b3, A3, n3, c3, d3, B3, m3, e3, rfl⟩ := h1.open_
  have z0 := h1.sz
  have zl : szR x ≤ 60 := by omega
  obtain ⟨u1, u2, v1, v2⟩ := rot_facts h0 hk1 hP hx z0 hr hz
  have HX := Lib.hid hx
  have HP := Lib.hid hP
  have HR := Lib.hid hr
  have HZ := Lib.hid hz
  clear hP hr hx hz
  have y0 := szR_mul (Rat.divInt (r : Int) P) (Rat.divInt (r : Int) P)
  have y1 := szR_mul (Rat.divInt z P) (Rat.divInt z P)
  obtain ⟨s1, hs1⟩ : ∃ s, cmpR ((Rat.divInt (r : Int) P) * (Rat.divInt (r : Int) P)) x = s := ⟨_, rfl⟩
  obtain ⟨s2, hs2⟩ : ∃ s, cmpR ((Rat.divInt z P) * (Rat.divInt z P)) x = s := ⟨_, rfl⟩
  have t1 : decide (s1 ≤ 0) = true := by exact decide_eq_true (by rw [← hs1]; exact (cmpR_le _ _).2 v1)
  have t2 : decide (0 ≤ s2) = true := by exact decide_eq_true (by rw [← hs2]; have := (cmpR_le _ _).2 v2; rw [cmpR_neg] at this; omega)
  have HS1 := Lib.hid hs1
  clear hs1
  have HS2 := Lib.hid hs2
  clear hs2
  have S := ((St.start w).addL h1)
  clear h1
  go_enter Tryz.func5, Tryz.ntmps5
  go_wp2_with fail
  replace S := (S.alloc 28 [.bool b3, .slice A3 n3 c3, .bool d3, .slice B3 m3 e3])
  obtain ⟨W1, eW, S⟩ := S.pack
  rw [eW]
  clear eW
  refine ((known_any _ (ht.keep S.k))).mono ?_
  rintro e W2 ⟨rfl, hk⟩
  replace S := S.below hk
  clear hk
  have r0_0 := S.c 0 0 rfl rfl
  have r0_1 := S.c 0 1 rfl rfl
  have r0_2 := S.c 0 2 rfl rfl
  have r0_3 := S.c 0 3 rfl rfl
  go_wp2_with fail
  refine ((lshort_b (S.li 0 rfl))).mono ?_
  rintro e W3 ⟨rfl, hk⟩
  replace S := S.below hk
  clear hk
  clear r0_0 r0_1 r0_2 r0_3
  have r0_0 := S.c 0 0 rfl rfl
  have r0_1 := S.c 0 1 rfl rfl
  have r0_2 := S.c 0 2 rfl rfl
  have r0_3 := S.c 0 3 rfl rfl
  go_wp2_with fail
  refine ((froot_rz ((S.li 0 rfl).num) (by omega) (ht.keep S.k) h0 hk1 HX.out HP.out HR.out HZ.out)).mono ?_
  rintro e W4 ⟨U4, V4, rfl, hp, hr, hk⟩
  obtain ⟨b4, A4, n4, c4, d4, B4, m4, e4, rfl⟩ := hp.open_
  obtain ⟨b5, A5, n5, c5, d5, B5, m5, e5, rfl⟩ := hr.open_
  replace S := ((S.below hk).addQ hp).addQ hr
  clear hk hp hr
  clear r0_0 r0_1 r0_2 r0_3
  go_upto_region 6 with fail
  replace S := ((S.alloc 28 [.bool b4, .slice A4 n4 c4, .bool d4, .slice B4 m4 e4]).alloc 28 [.bool b5, .slice A5 n5 c5, .bool d5, .slice B5 m5 e5])
  simp only [World.size_alloc] at S
  obtain ⟨W5, eW, S⟩ := S.pack
  rw [eW]
  clear eW
  generalize W4.heap.size = P1 at *
  have r0_0 := S.c 2 0 rfl rfl
  have r0_1 := S.c 2 1 rfl rfl
  have r0_2 := S.c 2 2 rfl rfl
  have r0_3 := S.c 2 3 rfl rfl
  go_wp2_with fail
  refine ((groot_rz ((S.li 2 rfl).num) zl h0 hk1 HX.out HP.out HR.out HZ.out)).mono ?_
  rintro e W6 ⟨U6, V6, rfl, hp, hr, hk⟩
  obtain ⟨b6, A6, n6, c6, d6, B6, m6, e6, rfl⟩ := hp.open_
  obtain ⟨b7, A7, n7, c7, d7, B7, m7, e7, rfl⟩ := hr.open_
  replace S := ((S.below hk).addQ hp).addQ hr
  clear hk hp hr
  clear r0_0 r0_1 r0_2 r0_3
  go_upto_region 9 with fail
  replace S := ((S.alloc 28 [.bool b6, .slice A6 n6 c6, .bool d6, .slice B6 m6 e6]).alloc 28 [.bool b7, .slice A7 n7 c7, .bool d7, .slice B7 m7 e7])
  simp only [World.size_alloc] at S
  obtain ⟨W7, eW, S⟩ := S.pack
  rw [eW]
  clear eW
  generalize W6.heap.size = P2 at *
  refine wp_region_steps (m := 24) rfl (by kernel_rfl) (fun iΦ vΦ wΦ => (List.getD [fun vΦ _ => vΦ = .agg #[.bool b4, .slice A4 n4 c4, .bool d4, .slice B4 m4 e4], fun vΦ _ => vΦ = .agg #[.bool b6, .slice A6 n6 c6, .bool d6, .slice B6 m6 e6], fun vΦ _ => vΦ = .bool true, fun vΦ _ => vΦ = .bool true, fun vΦ _ => vΦ = .agg #[.bool b5, .slice A5 n5 c5, .bool d5, .slice B5 m5 e5], fun vΦ _ => vΦ = .agg #[.bool b7, .slice A7 n7 c7, .bool d7, .slice B7 m7 e7], fun vΦ _ => vΦ = .bool true, fun vΦ _ => vΦ = .bool true, fun vΦ _ => vΦ = .bool true, fun vΦ _ => vΦ = .agg #[.bool b4, .slice A4 n4 c4, .bool d4, .slice B4 m4 e4], fun vΦ _ => vΦ = .agg #[.bool b4, .slice A4 n4 c4, .bool d4, .slice B4 m4 e4], fun vΦ wΦ => RatRep wΦ vΦ ((Rat.divInt (r : Int) P) * (Rat.divInt (r : Int) P)), fun vΦ _ => vΦ = .agg #[.bool b3, .slice A3 n3 c3, .bool d3, .slice B3 m3 e3], fun vΦ _ => vΦ = .int .i64 s1, fun vΦ _ => vΦ = .bool true, fun vΦ _ => vΦ = .bool true, fun vΦ _ => vΦ = .bool true, fun vΦ _ => vΦ = .agg #[.bool b5, .slice A5 n5 c5, .bool d5, .slice B5 m5 e5], fun vΦ _ => vΦ = .agg #[.bool b5, .slice A5 n5 c5, .bool d5, .slice B5 m5 e5], fun vΦ wΦ => RatRep wΦ vΦ ((Rat.divInt z P) * (Rat.divInt z P)), fun vΦ _ => vΦ = .agg #[.bool b3, .slice A3 n3 c3, .bool d3, .slice B3 m3 e3], fun vΦ _ => vΦ = .int .i64 s2, fun vΦ _ => vΦ = .bool true, fun vΦ _ => vΦ = .bool true] iΦ (fun _ _ => True)) vΦ wΦ) [] ?_ ?_ ?_
  · intro i v w w' _ h hk
    refine stabL_get ?_ i v w w' h hk
    exact stab_cons st_e (stab_cons st_e (stab_cons st_e (stab_cons st_e (stab_cons st_e (stab_cons st_e (stab_cons st_e (stab_cons st_e (stab_cons st_e (stab_cons st_e (stab_cons st_e (stab_cons st_q (stab_cons st_e (stab_cons st_e (stab_cons st_e (stab_cons st_e (stab_cons st_e (stab_cons st_e (stab_cons st_e (stab_cons st_q (stab_cons st_e (stab_cons st_e (stab_cons st_e (stab_cons st_e stab_nil)))))))))))))))))))))))
  · intro i hi vs w3 hk3 hd
    have S3 := S.drew.below hk3
    have a0 := S3.c 4 0 rfl rfl
    have a1 := S3.c 4 1 rfl rfl
    have a2 := S3.c 4 2 rfl rfl
    have a3 := S3.c 4 3 rfl rfl
    have a4 := S3.c 3 0 rfl rfl
    have a5 := S3.c 3 1 rfl rfl
    have a6 := S3.c 3 2 rfl rfl
    have a7 := S3.c 3 3 rfl rfl
    have a8 := S3.c 2 0 rfl rfl
    have a9 := S3.c 2 1 rfl rfl
    have a10 := S3.c 2 2 rfl rfl
    have a11 := S3.c 2 3 rfl rfl
    have a12 := S3.c 1 0 rfl rfl
    have a13 := S3.c 1 1 rfl rfl
    have a14 := S3.c 1 2 rfl rfl
    have a15 := S3.c 1 3 rfl rfl
    have a16 := S3.c 0 0 rfl rfl
    have a17 := S3.c 0 1 rfl rfl
    have a18 := S3.c 0 2 rfl rfl
    have a19 := S3.c 0 3 rfl rfl
    match i, hi with
    | 0, _ =>
      refine step_val0 [] (fun vΦ _ => vΦ = .agg #[.bool b4, .slice A4 n4 c4, .bool d4, .slice B4 m4 e4]) rfl (by kernel_rfl) rfl (fun _ _ h => h) rfl fun K hK => ?_; clear hd; simp only [frD] at hK ⊢; go_simp
      exact hK _ _ (Below.refl _ _) rfl
    | 1, _ =>
      refine step_val0 [] (fun vΦ _ => vΦ = .agg #[.bool b6, .slice A6 n6 c6, .bool d6, .slice B6 m6 e6]) rfl (by kernel_rfl) rfl (fun _ _ h => h) rfl fun K hK => ?_; clear hd; simp only [frD] at hK ⊢; go_simp
      exact hK _ _ (Below.refl _ _) rfl
    | 2, _ =>
      have qe0 : (vs 0) = .agg #[.bool b4, .slice A4 n4 c4, .bool d4, .slice B4 m4 e4] := hd 0 (cm (by kernel_rfl)); have qe1 : (vs 1) = .agg #[.bool b6, .slice A6 n6 c6, .bool d6, .slice B6 m6 e6] := hd 1 (cm (by kernel_rfl))
      refine step_call (F := 21) (X := .func (.func 21) #[] #[]) (A := #[(vs 0), (vs 1)]) (B := #[.agg #[.bool b4, .slice A4 n4 c4, .bool d4, .slice B4 m4 e4], .agg #[.bool b6, .slice A6 n6 c6, .bool d6, .slice B6 m6 e6]]) [(0, some 48), (1, some 49)] (fun vΦ _ => vΦ = .bool true) rfl (by kernel_rfl) (fun _ _ h => h) rfl (wanted_none rfl) rfl rfl (by kernel_rfl) rfl (by kernel_rfl) (by rw [qe0, qe1]) Tryz.func21 (by kernel_rfl) (by kernel_rfl) ?_
      refine ((gsame_s (b := true) (S3.qi 3 rfl) (S3.qi 1 rfl) (by omega) (decide_eq_true rfl))).mono ?_; rintro e w4 ⟨rfl, hk4⟩; exact ⟨_, rfl, hk4, rfl⟩
    | 3, _ =>
      have qe2 : (vs 2) = .bool true := hd 2 (cm (by kernel_rfl))
      refine step_val0 [(2, some 50)] (fun vΦ _ => vΦ = .bool true) rfl (by kernel_rfl) rfl (fun _ _ h => h) rfl fun K hK => ?_; clear hd; simp only [frD, qe2] at hK ⊢; go_simp
      exact hK _ _ (Below.refl _ _) rfl
    | 4, _ =>
      have qe3 : (vs 3) = .bool true := hd 3 (cm (by kernel_rfl))
      refine step_valg [(3, some 51)] (fun vΦ _ => vΦ = .agg #[.bool b5, .slice A5 n5 c5, .bool d5, .slice B5 m5 e5]) rfl (by kernel_rfl) (fun _ _ h => h) rfl (wanted_some 51 rfl (by rfl) (by kernel_rfl) qe3) fun K hK => ?_; clear hd; simp only [frD, qe3] at hK ⊢; go_simp
      exact hK _ _ (Below.refl _ _) rfl
    | 5, _ =>
      have qe3 : (vs 3) = .bool true := hd 3 (cm (by kernel_rfl))
      refine step_valg [(3, some 51)] (fun vΦ _ => vΦ = .agg #[.bool b7, .slice A7 n7 c7, .bool d7, .slice B7 m7 e7]) rfl (by kernel_rfl) (fun _ _ h => h) rfl (wanted_some 51 rfl (by rfl) (by kernel_rfl) qe3) fun K hK => ?_; clear hd; simp only [frD, qe3] at hK ⊢; go_simp
      exact hK _ _ (Below.refl _ _) rfl
    | 6, _ =>
      have qe3 : (vs 3) = .bool true := hd 3 (cm (by kernel_rfl)); have qe4 : (vs 4) = .agg #[.bool b5, .slice A5 n5 c5, .bool d5, .slice B5 m5 e5] := hd 4 (cm (by kernel_rfl)); have qe5 : (vs 5) = .agg #[.bool b7, .slice A7 n7 c7, .bool d7, .slice B7 m7 e7] := hd 5 (cm (by kernel_rfl))
      refine step_call (F := 21) (X := .func (.func 21) #[] #[]) (A := #[(vs 4), (vs 5)]) (B := #[.agg #[.bool b5, .slice A5 n5 c5, .bool d5, .slice B5 m5 e5], .agg #[.bool b7, .slice A7 n7 c7, .bool d7, .slice B7 m7 e7]]) [(3, some 51), (4, some 52), (5, some 53)] (fun vΦ _ => vΦ = .bool true) rfl (by kernel_rfl) (fun _ _ h => h) rfl (wanted_some 51 rfl (by rfl) (by kernel_rfl) qe3) rfl rfl (by kernel_rfl) rfl (by kernel_rfl) (by rw [qe4, qe5]) Tryz.func21 (by kernel_rfl) (by kernel_rfl) ?_
      refine ((gsame_s (b := true) (S3.qi 2 rfl) (S3.qi 0 rfl) (by omega) (decide_eq_true rfl))).mono ?_; rintro e w4 ⟨rfl, hk4⟩; exact ⟨_, rfl, hk4, rfl⟩
    | 7, _ =>
      have qe3 : (vs 3) = .bool true := hd 3 (cm (by kernel_rfl)); have qe6 : (vs 6) = .bool true := hd 6 (cm (by kernel_rfl))
      refine step_val0 [(3, some 51), (6, some 54)] (fun vΦ _ => vΦ = .bool true) rfl (by kernel_rfl) rfl (fun _ _ h => h) rfl fun K hK => ?_; clear hd; simp only [frD, qe3, qe6] at hK ⊢; go_simp
      exact hK _ _ (Below.refl _ _) rfl
    | 8, _ =>
      have qe6 : (vs 6) = .bool true := hd 6 (cm (by kernel_rfl)); have qe7 : (vs 7) = .bool true := hd 7 (cm (by kernel_rfl))
      refine step_val0 [(6, some 54), (7, some 55)] (fun vΦ _ => vΦ = .bool true) rfl (by kernel_rfl) rfl (fun _ _ h => h) rfl fun K hK => ?_; clear hd; simp only [frD, qe6, qe7] at hK ⊢; go_simp
      exact hK _ _ (Below.refl _ _) rfl
    | 9, _ =>
      have qe8 : (vs 8) = .bool true := hd 8 (cm (by kernel_rfl))
      refine step_valg [(8, some 56)] (fun vΦ _ => vΦ = .agg #[.bool b4, .slice A4 n4 c4, .bool d4, .slice B4 m4 e4]) rfl (by kernel_rfl) (fun _ _ h => h) rfl (wanted_some 56 rfl (by rfl) (by kernel_rfl) qe8) fun K hK => ?_; clear hd; simp only [frD, qe8] at hK ⊢; go_simp
      exact hK _ _ (Below.refl _ _) rfl
    | 10, _ =>
      have qe8 : (vs 8) = .bool true := hd 8 (cm (by kernel_rfl))
      refine step_valg [(8, some 56)] (fun vΦ _ => vΦ = .agg #[.bool b4, .slice A4 n4 c4, .bool d4, .slice B4 m4 e4]) rfl (by kernel_rfl) (fun _ _ h => h) rfl (wanted_some 56 rfl (by rfl) (by kernel_rfl) qe8) fun K hK => ?_; clear hd; simp only [frD, qe8] at hK ⊢; go_simp
      exact hK _ _ (Below.refl _ _) rfl
    | 11, _ =>
      have qe8 : (vs 8) = .bool true := hd 8 (cm (by kernel_rfl)); have qe9 : (vs 9) = .agg #[.bool b4, .slice A4 n4 c4, .bool d4, .slice B4 m4 e4] := hd 9 (cm (by kernel_rfl)); have qe10 : (vs 10) = .agg #[.bool b4, .slice A4 n4 c4, .bool d4, .slice B4 m4 e4] := hd 10 (cm (by kernel_rfl))
      refine step_call (F := 30) (X := .func (.func 30) #[] #[]) (A := #[(vs 9), (vs 10)]) (B := #[.agg #[.bool b4, .slice A4 n4 c4, .bool d4, .slice B4 m4 e4], .agg #[.bool b4, .slice A4 n4 c4, .bool d4, .slice B4 m4 e4]]) [(8, some 56), (9, some 57), (10, some 58)] (fun vΦ wΦ => RatRep wΦ vΦ ((Rat.divInt (r : Int) P) * (Rat.divInt (r : Int) P))) rfl (by kernel_rfl) (fun _ _ h => h) rfl (wanted_some 56 rfl (by rfl) (by kernel_rfl) qe8) rfl rfl (by kernel_rfl) rfl (by kernel_rfl) (by rw [qe9, qe10]) Tryz.func30 (by kernel_rfl) (by kernel_rfl) ?_
      refine ((fmul_num ((S3.qi 3 rfl).num (by omega)) ((S3.qi 3 rfl).num (by omega)))).mono ?_; rintro e w4 ⟨U, rfl, hr, hk4⟩; exact ⟨_, rfl, hk4, hr⟩
    | 12, _ =>
      have qe8 : (vs 8) = .bool true := hd 8 (cm (by kernel_rfl))
      refine step_valg [(8, some 56)] (fun vΦ _ => vΦ = .agg #[.bool b3, .slice A3 n3 c3, .bool d3, .slice B3 m3 e3]) rfl (by kernel_rfl) (fun _ _ h => h) rfl (wanted_some 56 rfl (by rfl) (by kernel_rfl) qe8) fun K hK => ?_; clear hd; simp only [frD, qe8] at hK ⊢; go_simp
      exact hK _ _ (Below.refl _ _) rfl
    | 13, _ =>
      have qe8 : (vs 8) = .bool true := hd 8 (cm (by kernel_rfl)); have h11 : RatRep w3 (vs 11) ((Rat.divInt (r : Int) P) * (Rat.divInt (r : Int) P)) := hd 11 (cm (by kernel_rfl)); have qe12 : (vs 12) = .agg #[.bool b3, .slice A3 n3 c3, .bool d3, .slice B3 m3 e3] := hd 12 (cm (by kernel_rfl))
      refine step_call (F := 32) (X := .func (.func 32) #[] #[]) (A := #[(vs 11), (vs 12)]) (B := #[(vs 11), .agg #[.bool b3, .slice A3 n3 c3, .bool d3, .slice B3 m3 e3]]) [(8, some 56), (11, some 59), (12, some 60)] (fun vΦ _ => vΦ = .int .i64 s1) rfl (by kernel_rfl) (fun _ _ h => h) rfl (wanted_some 56 rfl (by rfl) (by kernel_rfl) qe8) rfl rfl (by kernel_rfl) rfl (by kernel_rfl) (by rw [qe12]) Tryz.func32 (by kernel_rfl) (by kernel_rfl) ?_
      refine ((fcompare_s (h11.num (by omega)) ((S3.li 4 rfl).num) HS1.out)).mono ?_; rintro e w4 ⟨rfl, hk4⟩; exact ⟨_, rfl, hk4, rfl⟩
    | 14, _ =>
      have qe8 : (vs 8) = .bool true := hd 8 (cm (by kernel_rfl)); have qe13 : (vs 13) = .int .i64 s1 := hd 13 (cm (by kernel_rfl))
      refine step_valg [(8, some 56), (13, some 61)] (fun vΦ _ => vΦ = .bool true) rfl (by kernel_rfl) (fun _ _ h => h) rfl (wanted_some 56 rfl (by rfl) (by kernel_rfl) qe8) fun K hK => ?_; clear hd; simp only [frD, qe8, qe13] at hK ⊢; go_simp
      exact hK _ _ (Below.refl _ _) rfl
    | 15, _ =>
      have qe8 : (vs 8) = .bool true := hd 8 (cm (by kernel_rfl)); have qe14 : (vs 14) = .bool true := hd 14 (cm (by kernel_rfl))
      refine step_val0 [(8, some 56), (14, some 62)] (fun vΦ _ => vΦ = .bool true) rfl (by kernel_rfl) rfl (fun _ _ h => h) rfl fun K hK => ?_; clear hd; simp only [frD, qe8, qe14] at hK ⊢; go_simp
      exact hK _ _ (Below.refl _ _) rfl
    | 16, _ =>
      have qe13 : (vs 13) = .int .i64 s1 := hd 13 (cm (by kernel_rfl)); have qe15 : (vs 15) = .bool true := hd 15 (cm (by kernel_rfl))
      refine step_val0 [(13, some 61), (15, some 63)] (fun vΦ _ => vΦ = .bool true) rfl (by kernel_rfl) rfl (fun _ _ h => h) rfl fun K hK => ?_; clear hd; simp only [frD, qe13, qe15] at hK ⊢; go_simp
      exact hK _ _ (Below.refl _ _) rfl
    | 17, _ =>
      have qe16 : (vs 16) = .bool true := hd 16 (cm (by kernel_rfl))
      refine step_valg [(16, some 64)] (fun vΦ _ => vΦ = .agg #[.bool b5, .slice A5 n5 c5, .bool d5, .slice B5 m5 e5]) rfl (by kernel_rfl) (fun _ _ h => h) rfl (wanted_some 64 rfl (by rfl) (by kernel_rfl) qe16) fun K hK => ?_; clear hd; simp only [frD, qe16] at hK ⊢; go_simp
      exact hK _ _ (Below.refl _ _) rfl
    | 18, _ =>
      have qe16 : (vs 16) = .bool true := hd 16 (cm (by kernel_rfl))
      refine step_valg [(16, some 64)] (fun vΦ _ => vΦ = .agg #[.bool b5, .slice A5 n5 c5, .bool d5, .slice B5 m5 e5]) rfl (by kernel_rfl) (fun _ _ h => h) rfl (wanted_some 64 rfl (by rfl) (by kernel_rfl) qe16) fun K hK => ?_; clear hd; simp only [frD, qe16] at hK ⊢; go_simp
      exact hK _ _ (Below.refl _ _) rfl
    | 19, _ =>
      have qe16 : (vs 16) = .bool true := hd 16 (cm (by kernel_rfl)); have qe17 : (vs 17) = .agg #[.bool b5, .slice A5 n5 c5, .bool d5, .slice B5 m5 e5] := hd 17 (cm (by kernel_rfl)); have qe18 : (vs 18) = .agg #[.bool b5, .slice A5 n5 c5, .bool d5, .slice B5 m5 e5] := hd 18 (cm (by kernel_rfl))
      refine step_call (F := 30) (X := .func (.func 30) #[] #[]) (A := #[(vs 17), (vs 18)]) (B := #[.agg #[.bool b5, .slice A5 n5 c5, .bool d5, .slice B5 m5 e5], .agg #[.bool b5, .slice A5 n5 c5, .bool d5, .slice B5 m5 e5]]) [(16, some 64), (17, some 65), (18, some 66)] (fun vΦ wΦ => RatRep wΦ vΦ ((Rat.divInt z P) * (Rat.divInt z P))) rfl (by kernel_rfl) (fun _ _ h => h) rfl (wanted_some 64 rfl (by rfl) (by kernel_rfl) qe16) rfl rfl (by kernel_rfl) rfl (by kernel_rfl) (by rw [qe17, qe18]) Tryz.func30 (by kernel_rfl) (by kernel_rfl) ?_
      refine ((fmul_num ((S3.qi 2 rfl).num (by omega)) ((S3.qi 2 rfl).num (by omega)))).mono ?_; rintro e w4 ⟨U, rfl, hr, hk4⟩; exact ⟨_, rfl, hk4, hr⟩
    | 20, _ =>
      have qe16 : (vs 16) = .bool true := hd 16 (cm (by kernel_rfl))
      refine step_valg [(16, some 64)] (fun vΦ _ => vΦ = .agg #[.bool b3, .slice A3 n3 c3, .bool d3, .slice B3 m3 e3]) rfl (by kernel_rfl) (fun _ _ h => h) rfl (wanted_some 64 rfl (by rfl) (by kernel_rfl) qe16) fun K hK => ?_; clear hd; simp only [frD, qe16] at hK ⊢; go_simp
      exact hK _ _ (Below.refl _ _) rfl
    | 21, _ =>
      have qe16 : (vs 16) = .bool true := hd 16 (cm (by kernel_rfl)); have h19 : RatRep w3 (vs 19) ((Rat.divInt z P) * (Rat.divInt z P)) := hd 19 (cm (by kernel_rfl)); have qe20 : (vs 20) = .agg #[.bool b3, .slice A3 n3 c3, .bool d3, .slice B3 m3 e3] := hd 20 (cm (by kernel_rfl))
      refine step_call (F := 32) (X := .func (.func 32) #[] #[]) (A := #[(vs 19), (vs 20)]) (B := #[(vs 19), .agg #[.bool b3, .slice A3 n3 c3, .bool d3, .slice B3 m3 e3]]) [(16, some 64), (19, some 67), (20, some 68)] (fun vΦ _ => vΦ = .int .i64 s2) rfl (by kernel_rfl) (fun _ _ h => h) rfl (wanted_some 64 rfl (by rfl) (by kernel_rfl) qe16) rfl rfl (by kernel_rfl) rfl (by kernel_rfl) (by rw [qe20]) Tryz.func32 (by kernel_rfl) (by kernel_rfl) ?_
      refine ((fcompare_s (h19.num (by omega)) ((S3.li 4 rfl).num) HS2.out)).mono ?_; rintro e w4 ⟨rfl, hk4⟩; exact ⟨_, rfl, hk4, rfl⟩
    | 22, _ =>
      have qe16 : (vs 16) = .bool true := hd 16 (cm (by kernel_rfl)); have qe21 : (vs 21) = .int .i64 s2 := hd 21 (cm (by kernel_rfl))
      refine step_valg [(16, some 64), (21, some 69)] (fun vΦ _ => vΦ = .bool true) rfl (by kernel_rfl) (fun _ _ h => h) rfl (wanted_some 64 rfl (by rfl) (by kernel_rfl) qe16) fun K hK => ?_; clear hd; simp only [frD, qe16, qe21] at hK ⊢; go_simp
      exact hK _ _ (Below.refl _ _) rfl
    | 23, _ =>
      have qe16 : (vs 16) = .bool true := hd 16 (cm (by kernel_rfl)); have qe22 : (vs 22) = .bool true := hd 22 (cm (by kernel_rfl))
      refine step_val0 [(16, some 64), (22, some 70)] (fun vΦ _ => vΦ = .bool true) rfl (by kernel_rfl) rfl (fun _ _ h => h) rfl fun K hK => ?_; clear hd; simp only [frD, qe16, qe22] at hK ⊢; go_simp
      exact hK _ _ (Below.refl _ _) rfl
    | i + 24, hi => exact absurd hi (by omega)
  · intro vs W8 hk3 hΦ _
    simp only [List.drop_succ_cons, List.drop_zero]
    rw [fr_frD, show (List.range 24).map _ = [(0, some 48), (1, some 49), (2, some 50), (3, some 51), (4, some 52), (5, some 53), (6, some 54), (7, some 55), (8, some 56), (9, some 57), (10, some 58), (11, some 59), (12, some 60), (13, some 61), (14, some 62), (15, some 63), (16, some 64), (17, some 65), (18, some 66), (19, some 67), (20, some 68), (21, some 69), (22, some 70), (23, some 71)] by kernel_rfl]
    have pa0 : (vs 0) = .agg #[.bool b4, .slice A4 n4 c4, .bool d4, .slice B4 m4 e4] := hΦ 0 (by decide)
    have pa1 : (vs 1) = .agg #[.bool b6, .slice A6 n6 c6, .bool d6, .slice B6 m6 e6] := hΦ 1 (by decide)
    have pa2 : (vs 2) = .bool true := hΦ 2 (by decide)
    have pa3 : (vs 3) = .bool true := hΦ 3 (by decide)
    have pa4 : (vs 4) = .agg #[.bool b5, .slice A5 n5 c5, .bool d5, .slice B5 m5 e5] := hΦ 4 (by decide)
    have pa5 : (vs 5) = .agg #[.bool b7, .slice A7 n7 c7, .bool d7, .slice B7 m7 e7] := hΦ 5 (by decide)
    have pa6 : (vs 6) = .bool true := hΦ 6 (by decide)
    have pa7 : (vs 7) = .bool true := hΦ 7 (by decide)
    have pa8 : (vs 8) = .bool true := hΦ 8 (by decide)
    have pa9 : (vs 9) = .agg #[.bool b4, .slice A4 n4 c4, .bool d4, .slice B4 m4 e4] := hΦ 9 (by decide)
    have pa10 : (vs 10) = .agg #[.bool b4, .slice A4 n4 c4, .bool d4, .slice B4 m4 e4] := hΦ 10 (by decide)
    have pa11 : RatRep W8 (vs 11) ((Rat.divInt (r : Int) P) * (Rat.divInt (r : Int) P)) := hΦ 11 (by decide)
    have pa12 : (vs 12) = .agg #[.bool b3, .slice A3 n3 c3, .bool d3, .slice B3 m3 e3] := hΦ 12 (by decide)
    have pa13 : (vs 13) = .int .i64 s1 := hΦ 13 (by decide)
    have pa14 : (vs 14) = .bool true := hΦ 14 (by decide)
    have pa15 : (vs 15) = .bool true := hΦ 15 (by decide)
    have pa16 : (vs 16) = .bool true := hΦ 16 (by decide)
    have pa17 : (vs 17) = .agg #[.bool b5, .slice A5 n5 c5, .bool d5, .slice B5 m5 e5] := hΦ 17 (by decide)
    have pa18 : (vs 18) = .agg #[.bool b5, .slice A5 n5 c5, .bool d5, .slice B5 m5 e5] := hΦ 18 (by decide)
    have pa19 : RatRep W8 (vs 19) ((Rat.divInt z P) * (Rat.divInt z P)) := hΦ 19 (by decide)
    have pa20 : (vs 20) = .agg #[.bool b3, .slice A3 n3 c3, .bool d3, .slice B3 m3 e3] := hΦ 20 (by decide)
    have pa21 : (vs 21) = .int .i64 s2 := hΦ 21 (by decide)
    have pa22 : (vs 22) = .bool true := hΦ 22 (by decide)
    have pa23 : (vs 23) = .bool true := hΦ 23 (by decide)
    clear hΦ
    simp only [frD, pa0, pa1, pa2, pa3, pa4, pa5, pa6, pa7, pa8, pa9, pa10, pa12, pa13, pa14, pa15, pa16, pa17, pa18, pa20, pa21, pa22, pa23]
    simp only [Act.put, List.setIfInBounds_toArray, List.set_cons_zero, List.set_cons_succ]
    clear pa0 pa1 pa2 pa3 pa4 pa5 pa6 pa7 pa8 pa9 pa10 pa12 pa13 pa14 pa15 pa16 pa17 pa18 pa20 pa21 pa22 pa23
    generalize vs 11 = Upa11 at pa11 ⊢
    generalize vs 19 = Upa19 at pa19 ⊢
    replace S := S.drew.below hk3
    clear pa11
    clear pa19
    clear hk3
    go_wp2
    go_ret
    exact ⟨rfl, S.k⟩
theorem roots_walk {w : World} {V1 : Value} {x : Rat} {b1 : Bool} {k : Int} (h1 : RatS w V1 x b1) (ht : PowTab w) :
    Calls Tryz.prog 5 #[V1, .int .i64 k] w fun e w' => e = .returned (.bool true) ∧ Keeps w w' := by
  cases b1 with
  | false => exact rot_1 h1 ht
  | true =>
    by_cases hb : k < 0 ∨ 512 < k ∨ x < 0
    · exact rot_bad h1 ht hb
    · have hx : ¬ x < 0 := fun h => hb (.inr (.inr h))
      have hf : 0 ≤ (x * (((2 : Int) ^ k.toNat : Int) : Rat) * (((2 : Int) ^ k.toNat : Int) : Rat)).floor := by
        have hPP : (0 : Int) < (2 : Int) ^ k.toNat := Int.pow_pos (by decide)
        have a : (0 : Rat) < (((2 : Int) ^ k.toNat : Int) : Rat) := by rw [← Rat.intCast_zero]; exact Rat.intCast_lt_intCast.2 hPP
        exact Rat.le_floor_iff.2 (by rw [Rat.intCast_zero]; exact Rat.mul_nonneg (Rat.mul_nonneg (Rat.not_lt.1 hx) (Rat.le_of_lt a)) (Rat.le_of_lt a))
      obtain ⟨r, hr⟩ := root_exists hf
      exact rot_ok h1 ht (by omega) (by omega) rfl hx hr rfl
end Go.Proofs.YtmochehkkadjnaaGreatDoor
