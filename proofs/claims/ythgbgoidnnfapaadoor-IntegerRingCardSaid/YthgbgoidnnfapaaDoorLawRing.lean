/- The walk of the law IntegerRing. -/
import Derived.Test.YthgbgoidnnfapaaDoorLawC
import Derived.Test.YthgbgoidnnfapaaDoorRegion
namespace Go.Proofs.YthgbgoidnnfapaaDoor
open Go.RowKit Go.Shelf

structure Six (w : World) (t : TypeId) (a b c d1 d2 d3 : Nat) (x1 y1 x2 y2 x3 y3 x4 y4 x5 y5 x6 y6 : Value) : Prop where
  o1 : Own w a t [x1, y1]
  o2 : Own w b t [x2, y2]
  o3 : Own w c t [x3, y3]
  o4 : Own w d1 t [x4, y4]
  o5 : Own w d2 t [x5, y5]
  o6 : Own w d3 t [x6, y6]
section
variable {w w' : World} {t : TypeId} {a b c d1 d2 d3 : Nat} {x1 y1 x2 y2 x3 y3 x4 y4 x5 y5 x6 y6 : Value}
theorem Six.below (h : Six w t a b c d1 d2 d3 x1 y1 x2 y2 x3 y3 x4 y4 x5 y5 x6 y6) (hk : Keeps w w') : Six w' t a b c d1 d2 d3 x1 y1 x2 y2 x3 y3 x4 y4 x5 y5 x6 y6 :=
  ⟨h.o1.below hk, h.o2.below hk, h.o3.below hk, h.o4.below hk, h.o5.below hk, h.o6.below hk⟩
theorem Six.drew (h : Six w t a b c d1 d2 d3 x1 y1 x2 y2 x3 y3 x4 y4 x5 y5 x6 y6) : Six w.drew t a b c d1 d2 d3 x1 y1 x2 y2 x3 y3 x4 y4 x5 y5 x6 y6 := ⟨h.o1, h.o2, h.o3, h.o4, h.o5, h.o6⟩
theorem Six.cells (h : Six w t a b c d1 d2 d3 x1 y1 x2 y2 x3 y3 x4 y4 x5 y5 x6 y6) :
    w.cell? ⟨a, 0, none⟩ = some x1 ∧ w.cell? ⟨a, 1, none⟩ = some y1 ∧ w.cell? ⟨b, 0, none⟩ = some x2 ∧ w.cell? ⟨b, 1, none⟩ = some y2 ∧ w.cell? ⟨c, 0, none⟩ = some x3 ∧ w.cell? ⟨c, 1, none⟩ = some y3 ∧
    w.cell? ⟨d1, 0, none⟩ = some x4 ∧ w.cell? ⟨d1, 1, none⟩ = some y4 ∧ w.cell? ⟨d2, 0, none⟩ = some x5 ∧ w.cell? ⟨d2, 1, none⟩ = some y5 ∧ w.cell? ⟨d3, 0, none⟩ = some x6 ∧ w.cell? ⟨d3, 1, none⟩ = some y6 :=
  ⟨h.o1.c0, h.o1.c1, h.o2.c0, h.o2.c1, h.o3.c0, h.o3.c1, h.o4.c0, h.o4.c1, h.o5.c0, h.o5.c1, h.o6.c0, h.o6.c1⟩
/-- three boxes of two cells are written, one after the other -/
theorem three (hO1 : Own w d1 t [x1, y1]) (hO2 : Own w d2 t [x2, y2]) (hO3 : Own w d3 t [x3, y3]) (h12 : d1 ≠ d2) (h13 : d1 ≠ d3) (h23 : d2 ≠ d3)
    (a1 : noU32 x1 = true) (b1 : noU32 y1 = true) (a2 : noU32 x2 = true) (b2 : noU32 y2 = true) (a3 : noU32 x3 = true) (b3 : noU32 y3 = true)
    (a4 : noU32 x4 = true) (_b4 : noU32 y4 = true) (a5 : noU32 x5 = true) (_b5 : noU32 y5 = true) (a6 : noU32 x6 = true) (_b6 : noU32 y6 = true)
    (hw : w' = (((((w.setCell ⟨d1, 0, none⟩ x4).setCell ⟨d1, 1, none⟩ y4).setCell ⟨d2, 0, none⟩ x5).setCell ⟨d2, 1, none⟩ y5).setCell ⟨d3, 0, none⟩ x6).setCell ⟨d3, 1, none⟩ y6) :
    Own w' d1 t [x4, y4] ∧ Own w' d2 t [x5, y5] ∧ Own w' d3 t [x6, y6] ∧ (∀ b vs, b ≠ d1 → b ≠ d2 → b ≠ d3 → Own w b t vs → Own w' b t vs) ∧ (∀ v xs, U32 w v xs → U32 w' v xs) ∧
      (∀ w0 : World, w0.heap.size ≤ d1 → w0.heap.size ≤ d2 → w0.heap.size ≤ d3 → Keeps w0 w → Keeps w0 w') := by
  subst hw
  refine ⟨((hO1.two x4 y4).far2 h12).far2 h13, ((hO2.far2 h12.symm).two x5 y5).far2 h23, ((hO3.far2 h13.symm).far2 h23.symm).two x6 y6, fun b vs e1 e2 e3 h => ((h.far2 e1).far2 e2).far2 e3, fun v xs h => ?_, fun w0 e1 e2 e3 h => ?_⟩
  · exact ((h.two hO1 a1 b1 a4).two (hO2.far2 h12.symm) a2 b2 a5).two ((hO3.far2 h13.symm).far2 h23.symm) a3 b3 a6
  · exact (((((h.set e1 _).set e1 _).set e2 _).set e2 _).set e3 _).set e3 _
/-- the values of the boxes -/
structure Vals (w : World) (Va Vb Vc V1 V2 V3 : Value) (x y z : Int) : Prop where
  a : IntNum w Va x
  b : IntNum w Vb y
  c : IntNum w Vc z
  r1 : IntRep w V1 (x + y)
  r2 : IntRep w V2 (x - y)
  r3 : IntRep w V3 (x * y)
theorem Vals.drew {Va Vb Vc V1 V2 V3 : Value} {x y z : Int} (h : Vals w Va Vb Vc V1 V2 V3 x y z) : Vals w.drew Va Vb Vc V1 V2 V3 x y z := ⟨h.a, h.b, h.c, h.r1, h.r2, h.r3⟩
theorem Vals.below {Va Vb Vc V1 V2 V3 : Value} {x y z : Int} (h : Vals w Va Vb Vc V1 V2 V3 x y z) (hk : Keeps w w') : Vals w' Va Vb Vc V1 V2 V3 x y z :=
  ⟨h.a.below hk, h.b.below hk, h.c.below hk, h.r1.below hk, h.r2.below hk, h.r3.below hk⟩
end
def ringΦ (k : Nat) (va vb : Value) (x y : Int) : Nat → Value → World → Prop
  | 0, v, _ | 3, v, _ | 6, v, _ => v = va
  | 1, v, _ | 4, v, _ | 7, v, _ => v = vb
  | 2, v, w => IntRep w v (x + y)
  | 5, v, w => IntRep w v (x - y)
  | 8, v, w => IntRep w v (x * y)
  | 9, v, w | 10, v, w | 11, v, w => ∃ b, v = .pointer (some ⟨b, 0, none⟩) ∧ k ≤ b ∧ Own w b 24 [.bool false, .slice none 0 0]
  | _, _, _ => True
set_option maxRecDepth 100000 in
set_option maxHeartbeats 2000000 in
theorem ring_walk (n1 n2 n3 : Bool) (xs ys zs : List Nat) (V1 V2 V3 : Value) (w : World) (hkn : ∀ W, Keeps w W → KnownAt W) (h1 : IntArg w V1 n1 xs) (h2 : IntArg w V2 n2 ys) (h3 : IntArg w V3 n3 zs)
    (hm1 : xs.length ≤ 9223372036854775807) (hm2 : ys.length ≤ 9223372036854775807) (hm3 : zs.length ≤ 9223372036854775807) :
    Calls Tryd.prog 4 #[V1, V2, V3] w fun e w' => e = .returned (.bool true) ∧ Keeps w w' := by
  obtain ⟨v1, rfl, hv1⟩ := h1
  obtain ⟨v2, rfl, hv2⟩ := h2
  obtain ⟨v3, rfl, hv3⟩ := h3
  have hkk := keep3 w (.cells #[.bool n1, v1] 24) (.cells #[.bool n2, v2] 24) (.cells #[.bool n3, v3] 24)
  have hC := own3 w (.cells #[.bool n1, v1] 24) (.cells #[.bool n2, v2] 24) 24 [.bool n3, v3]
  have hB := (own2 w (.cells #[.bool n1, v1] 24) 24 [.bool n2, v2]).alloc (.cells #[.bool n3, v3] 24)
  have hA := ((Own.new w 24 [.bool n1, v1]).alloc (.cells #[.bool n2, v2] 24)).alloc (.cells #[.bool n3, v3] 24)
  have hkn0 := Lib.hid (hkn _ hkk)
  clear hkn
  go_enter Tryd.func4, Tryd.ntmps4
  go_wp2_with fail
  have g1 := hv1.below hkk
  have g2 := hv2.below hkk
  have g3 := hv3.below hkk
  generalize ((w.alloc (.cells #[.bool n1, v1] 24)).alloc (.cells #[.bool n2, v2] 24)).alloc (.cells #[.bool n3, v3] 24) = W at *
  refine (hkn0.out).mono ?_
  rintro e w1 ⟨rfl, hk1⟩
  have hA1 := hA.below hk1
  have hB1 := hB.below hk1
  have hC1 := hC.below hk1
  have a0 := hA1.c0
  have a1 := hA1.c1
  have b0 := hB1.c0
  have b1 := hB1.c1
  have c0 := hC1.c0
  have c1 := hC1.c1
  have k1 := hkk.trans' hk1
  have g1 := g1.below hk1
  have g2 := g2.below hk1
  have g3 := g3.below hk1
  obtain ⟨A1, p1, q1, rfl, e1, -⟩ := g1.open_
  obtain ⟨A2, p2, q2, rfl, e2, -⟩ := g2.open_
  obtain ⟨A3, p3, q3, rfl, e3, -⟩ := g3.open_
  have hsh := Lib.hid (short3 n1 n2 n3 A1 A2 A3 p1 p2 p3 q1 q2 q3 _ _ (Own.new w1 24 [.bool n1, .slice A1 p1 q1, .bool n2, .slice A2 p2 q2, .bool n3, .slice A3 p3 q3]) (by omega) (by omega) (by omega))
  cases hS : shortB [p1, p2, p3] with
  | false =>
    rw [hS] at hsh
    clear hS e1 e2 e3
    go_wp2_with fail
    refine hsh.out.mono ?_
    rintro e w2 ⟨rfl, hk2⟩
    go_wp2
    go_ret
    exact ⟨rfl, (k1.trans' (box2 _ _)).trans' hk2⟩
  | true =>
    rw [hS] at hsh
    have hl1 : xs.length ≤ 12 := by simp [shortB] at hS; omega
    have hl2 : ys.length ≤ 12 := by simp [shortB] at hS; omega
    have hl3 : zs.length ≤ 12 := by simp [shortB] at hS; omega
    clear hS e1 e2 e3
    go_wp2_with fail
    refine hsh.out.mono ?_
    rintro e w2 ⟨rfl, hk2⟩
    have hk2' : Keeps w1 w2 := (box2 _ _).trans' hk2
    have hA2 := hA1.below hk2'
    have hB2 := hB1.below hk2'
    have hC2 := hC1.below hk2'
    have f1 := g1.below hk2'
    have f2 := g2.below hk2'
    have f3 := g3.below hk2'
    have k2 := k1.trans' hk2'
    clear a0 a1 b0 b1 c0 c1
    have a0 := hA2.c0
    have a1 := hA2.c1
    have b0 := hB2.c0
    have b1 := hB2.c1
    have c0 := hC2.c0
    have c1 := hC2.c1
    go_wp2_with fail

    refine wp_region_phi (m := 12) rfl (by kernel_rfl) (ringΦ w2.heap.size (.agg #[.bool n1, .slice A1 p1 q1]) (.agg #[.bool n2, .slice A2 p2 q2]) (cnt n1 xs) (cnt n2 ys)) [9, 10, 11] ?_ ?_ ?_
    · intro i v w w' hi hv hk
      match i, hi with
      | 0, _ | 1, _ | 3, _ | 4, _ | 6, _ | 7, _ => exact hv
      | 2, _ | 5, _ | 8, _ => exact hv.below hk
      | 9, _ | 10, _ | 11, _ => exact hv.elim fun b ⟨h1, h2, h3⟩ => ⟨b, h1, h2, h3.below hk⟩
    · intro i hi vs w3 hk3 hd
      have a0 := (hA2.drew.below hk3).c0
      have a1 := (hA2.drew.below hk3).c1
      have b0 := (hB2.drew.below hk3).c0
      have b1 := (hB2.drew.below hk3).c1
      have f1 := f1.drew.below hk3
      have f2 := f2.drew.below hk3
      match i, hi with
      | 0, _ | 1, _ | 3, _ | 4, _ | 6, _ | 7, _ =>
        refine step_at [] rfl rfl (by kernel_rfl) fun K hK => ?_
        simp only [frD] at hK ⊢
        go_simp
        exact hK _ _ ⟨Below.refl _ _, rfl, by simp⟩
      | 2, _ =>
        have e0 : vs 0 = .agg #[.bool n1, .slice A1 p1 q1] := hd 0 (List.contains_iff_mem.1 (by kernel_rfl))
        have e1 : vs 1 = .agg #[.bool n2, .slice A2 p2 q2] := hd 1 (List.contains_iff_mem.1 (by kernel_rfl))
        refine step_at [(0, some 18), (1, some 19)] rfl rfl (by kernel_rfl) fun K hK => ?_
        simp only [frD, e0, e1] at hK ⊢
        go_simp
        refine (add_any n1 n2 xs ys _ _ w3 ⟨_, rfl, f1⟩ ⟨_, rfl, f2⟩ (by omega) (by omega)).mono ?_
        rintro e w4 ⟨U, rfl, hr, hk4⟩
        exact hK _ _ ⟨hk4, hr, by simp⟩
      | 5, _ =>
        have e0 : vs 3 = .agg #[.bool n1, .slice A1 p1 q1] := hd 3 (List.contains_iff_mem.1 (by kernel_rfl))
        have e1 : vs 4 = .agg #[.bool n2, .slice A2 p2 q2] := hd 4 (List.contains_iff_mem.1 (by kernel_rfl))
        refine step_at [(2, some 20), (3, some 21), (4, some 22)] rfl rfl (by kernel_rfl) fun K hK => ?_
        simp only [frD, e0, e1] at hK ⊢
        go_simp
        refine (sub_any n1 n2 xs ys _ _ w3 ⟨_, rfl, f1⟩ ⟨_, rfl, f2⟩ (by omega) (by omega)).mono ?_
        rintro e w4 ⟨U, rfl, hr, hk4⟩
        exact hK _ _ ⟨hk4, hr, by simp⟩
      | 8, _ =>
        have e0 : vs 6 = .agg #[.bool n1, .slice A1 p1 q1] := hd 6 (List.contains_iff_mem.1 (by kernel_rfl))
        have e1 : vs 7 = .agg #[.bool n2, .slice A2 p2 q2] := hd 7 (List.contains_iff_mem.1 (by kernel_rfl))
        refine step_at [(5, some 23), (6, some 24), (7, some 25)] rfl rfl (by kernel_rfl) fun K hK => ?_
        simp only [frD, e0, e1] at hK ⊢
        go_simp
        refine (mul_any n1 n2 xs ys _ _ w3 ⟨_, rfl, f1⟩ ⟨_, rfl, f2⟩ (by omega) (by omega)).mono ?_
        rintro e w4 ⟨U, rfl, hr, hk4⟩
        exact hK _ _ ⟨hk4, hr, by simp⟩
      | 9, _ | 10, _ | 11, _ =>
        refine step_at [] rfl rfl (by kernel_rfl) fun K hK => ?_
        simp only [frD] at hK ⊢
        go_simp
        exact hK _ _ ⟨(Below.refl _ _).alloc (Nat.le_refl _) _, ⟨_, rfl, hk3.size, Own.new w3 _ _⟩, fun _ => ⟨rfl, by simp⟩⟩
    · intro vs w3 hk3 hΦ hne
      have hA3 := hA2.drew.below hk3
      have hB3 := hB2.drew.below hk3
      have hC3 := hC2.drew.below hk3
      simp only [List.drop_succ_cons, List.drop_zero]
      rw [fr_frD, show (List.range 12).map _ = [(0, some 18), (1, some 19), (2, some 20), (3, some 21), (4, some 22), (5, some 23), (6, some 24), (7, some 25), (8, some 26), (9, some 7), (10, some 8), (11, some 9)] by kernel_rfl]
      have h2 := hΦ 2 (by omega)
      have h5 := hΦ 5 (by omega)
      have h8 := hΦ 8 (by omega)
      obtain ⟨d1, e9, hl1', hO1⟩ := hΦ 9 (by omega)
      obtain ⟨d2, e10, hl2', hO2⟩ := hΦ 10 (by omega)
      obtain ⟨d3, e11, hl3', hO3⟩ := hΦ 11 (by omega)
      have n12 : d1 ≠ d2 := fun e => hne 9 10 (by omega) (by omega) (by decide) (by decide) (by decide) (by rw [e9, e10, e])
      have n13 : d1 ≠ d3 := fun e => hne 9 11 (by omega) (by omega) (by decide) (by decide) (by decide) (by rw [e9, e11, e])
      have n23 : d2 ≠ d3 := fun e => hne 10 11 (by omega) (by omega) (by decide) (by decide) (by decide) (by rw [e10, e11, e])
      clear hne hΦ
      simp only [frD, e9, e10, e11]
      generalize vs 2 = U1 at h2 ⊢
      generalize vs 5 = U2 at h5 ⊢
      generalize vs 8 = U3 at h8 ⊢
      clear e9 e10 e11

      simp only [ringΦ] at h2 h5 h8
      obtain ⟨B1, u1, y1, rfl, hu1⟩ := h2.open_
      obtain ⟨B2, u2, y2, rfl, hu2⟩ := h5.open_
      obtain ⟨B3, u3, y3, rfl, hu3⟩ := h8.open_
      have k3 := Keeps.trans' (k2.drew : Keeps w w2.drew) hk3
      have hF1 := f1.drew.below hk3
      have hF2 := f2.drew.below hk3
      have hF3 := f3.drew.below hk3
      have lC := hC2.lt
      have lW := k2.size
      clear a0 a1 b0 b1 c0 c1
      generalize decide (cnt n1 xs + cnt n2 ys < 0) = s1 at h2 ⊢
      generalize decide (cnt n1 xs - cnt n2 ys < 0) = s2 at h5 ⊢
      generalize decide (cnt n1 xs * cnt n2 ys < 0) = s3 at h8 ⊢
      have r10 := hO1.c0
      have r11 := hO1.c1
      have r20 := hO2.c0
      have r21 := hO2.c1
      have r30 := hO3.c0
      have r31 := hO3.c1
      have m12 := n12.symm
      have m13 := n13.symm
      have m23 := n23.symm
      have s10 := hO1.frozen 0
      have s11 := hO1.frozen 1
      have s20 := hO2.frozen 0
      have s21 := hO2.frozen 1
      have s30 := hO3.frozen 0
      have s31 := hO3.frozen 1
      go_wp2_with fail
      have hW : ∃ W, W = ((((((w3.setCell ⟨d1, 0, none⟩ (.bool s1)).setCell ⟨d1, 1, none⟩ (.slice B1 u1 y1)).setCell ⟨d2, 0, none⟩ (.bool s2)).setCell ⟨d2, 1, none⟩ (.slice B2 u2 y2)).setCell ⟨d3, 0, none⟩ (.bool s3)).setCell ⟨d3, 1, none⟩ (.slice B3 u3 y3)) := ⟨_, rfl⟩
      obtain ⟨W4, hW⟩ := hW
      rw [← hW]
      obtain ⟨hP1, hP2, hP3, hPo, hPu, hPk⟩ := three hO1 hO2 hO3 n12 n13 n23 rfl rfl rfl rfl rfl rfl rfl rfl rfl rfl rfl rfl hW
      have k4 := hPk w (by omega) (by omega) (by omega) k3
      have hs : Six W4.drew 24 w.heap.size (w.heap.size + 1) (w.heap.size + 1 + 1) d1 d2 d3 _ _ _ _ _ _ _ _ _ _ _ _ :=
        ⟨hPo _ _ (by omega) (by omega) (by omega) hA3, hPo _ _ (by omega) (by omega) (by omega) hB3, hPo _ _ (by omega) (by omega) (by omega) hC3, hP1, hP2, hP3⟩
      have hv : Vals W4.drew (.agg #[.bool n1, .slice A1 p1 q1]) (.agg #[.bool n2, .slice A2 p2 q2]) (.agg #[.bool n3, .slice A3 p3 q3]) (.agg #[.bool s1, .slice B1 u1 y1]) (.agg #[.bool s2, .slice B2 u2 y2]) (.agg #[.bool s3, .slice B3 u3 y3]) (cnt n1 xs) (cnt n2 ys) (cnt n3 zs) :=
        ⟨⟨_, _, ⟨_, rfl, hPu _ _ hF1⟩, rfl, by omega⟩, ⟨_, _, ⟨_, rfl, hPu _ _ hF2⟩, rfl, by omega⟩, ⟨_, _, ⟨_, rfl, hPu _ _ hF3⟩, rfl, by omega⟩, rep_of h2 (hPu _ _ hu1), rep_of h5 (hPu _ _ hu2), rep_of h8 (hPu _ _ hu3)⟩
      clear hPo hPu hPk hW r10 r11 r20 r21 r30 r31 m12 m13 m23 s10 s11 s20 s21 s30 s31 hF1 hF2 hF3 hu1 hu2 hu3 h2 h5 h8 hO1 hO2 hO3 n12 n13 n23 k3 hA3 hB3 hC3 hP1 hP2 hP3
      clear hk3 f1 f2 f3 k2 hk2 hk2' hA2 hB2 hC2 hsh hA1 hB1 hC1 k1 hk1 hkk hkn0 hA hB hC g1 g2 g3 hv1 hv2 hv3
      have ln1 := lenI_cnt n1 xs
      have ln2 := lenI_cnt n2 ys
      have ln3 := lenI_cnt n3 zs
      generalize cnt n1 xs = x at *
      generalize cnt n2 ys = y at *
      generalize cnt n3 zs = z at *
      have lx : lenI x ≤ 12 := by omega
      have ly : lenI y ≤ 12 := by omega
      have lz : lenI z ≤ 12 := by omega
      have lxy := lenI_add x y
      have lyx := lenI_add y x
      have lyz := lenI_add y z
      have lsb := lenI_sub x y
      have lm := lenI_mul x y
      have lmz := lenI_mul x z
      have lm3 := lenI_mul x (y + z)
      clear ln1 ln2 ln3
      replace k4 : Keeps w W4.drew := Below.drew k4
      go_region_held3 (fun w' => w'.cell? ⟨w.heap.size, 0, none⟩ = some (.bool n1) ∧ w'.cell? ⟨w.heap.size, 1, none⟩ = some (.slice A1 p1 q1) ∧ w'.cell? ⟨w.heap.size + 1, 0, none⟩ = some (.bool n2) ∧ w'.cell? ⟨w.heap.size + 1, 1, none⟩ = some (.slice A2 p2 q2) ∧ w'.cell? ⟨w.heap.size + 1 + 1, 0, none⟩ = some (.bool n3) ∧ w'.cell? ⟨w.heap.size + 1 + 1, 1, none⟩ = some (.slice A3 p3 q3) ∧
        w'.cell? ⟨d1, 0, none⟩ = some (.bool s1) ∧ w'.cell? ⟨d1, 1, none⟩ = some (.slice B1 u1 y1) ∧ w'.cell? ⟨d2, 0, none⟩ = some (.bool s2) ∧ w'.cell? ⟨d2, 1, none⟩ = some (.slice B2 u2 y2) ∧ w'.cell? ⟨d3, 0, none⟩ = some (.bool s3) ∧ w'.cell? ⟨d3, 1, none⟩ = some (.slice B3 u3 y3))
        (exact hs.cells)
        (first
          | (go_at_call 21; refine (radd_num hv.a hv.b).mono ?_; rintro e W5 ⟨U, rfl, hr, hk⟩; replace hs := hs.below hk; replace hv := hv.below hk; replace k4 := k4.trans' hk)
          | (go_at_call 22; refine (rsub_num hv.a hv.b).mono ?_; rintro e W5 ⟨U, rfl, hr, hk⟩; replace hs := hs.below hk; replace hv := hv.below hk; replace k4 := k4.trans' hk)
          | (go_at_call 23; refine (rmul_num hv.a hv.b).mono ?_; rintro e W5 ⟨U, rfl, hr, hk⟩; replace hs := hs.below hk; replace hv := hv.below hk; replace k4 := k4.trans' hk)
          | (go_at_call_of 15 (Value.slice B1 u1 y1); refine (same_num hv.r1 hr rfl (by omega)).mono ?_; rintro e W5 ⟨rfl, hk⟩; replace hs := hs.below hk; replace hv := hv.below hk; replace k4 := k4.trans' hk)
          | (go_at_call_of 15 (Value.slice B2 u2 y2); refine (same_num hv.r2 hr rfl (by omega)).mono ?_; rintro e W5 ⟨rfl, hk⟩; replace hs := hs.below hk; replace hv := hv.below hk; replace k4 := k4.trans' hk)
          | (go_at_call_of 15 (Value.slice B3 u3 y3); refine (same_num hv.r3 hr rfl (by omega)).mono ?_; rintro e W5 ⟨rfl, hk⟩; replace hs := hs.below hk; replace hv := hv.below hk; replace k4 := k4.trans' hk))
      go_wp2
      have lyx' : lenI (y * x) ≤ lenI y + lenI x := lenI_mul y x
      have lxx : lenI (x - y + y) ≤ max (lenI (x - y)) (lenI y) + 1 := lenI_add _ _
      have ek : ∀ W : World, Keeps w W → Keeps w W.drew := fun W h => Below.drew h
      replace hs := hs.drew
      replace hv := hv.drew
      replace k4 := ek _ k4
      go_region_held3 (fun w' => w'.cell? ⟨w.heap.size, 0, none⟩ = some (.bool n1) ∧ w'.cell? ⟨w.heap.size, 1, none⟩ = some (.slice A1 p1 q1) ∧ w'.cell? ⟨w.heap.size + 1, 0, none⟩ = some (.bool n2) ∧ w'.cell? ⟨w.heap.size + 1, 1, none⟩ = some (.slice A2 p2 q2) ∧ w'.cell? ⟨w.heap.size + 1 + 1, 0, none⟩ = some (.bool n3) ∧ w'.cell? ⟨w.heap.size + 1 + 1, 1, none⟩ = some (.slice A3 p3 q3) ∧
        w'.cell? ⟨d1, 0, none⟩ = some (.bool s1) ∧ w'.cell? ⟨d1, 1, none⟩ = some (.slice B1 u1 y1) ∧ w'.cell? ⟨d2, 0, none⟩ = some (.bool s2) ∧ w'.cell? ⟨d2, 1, none⟩ = some (.slice B2 u2 y2) ∧ w'.cell? ⟨d3, 0, none⟩ = some (.bool s3) ∧ w'.cell? ⟨d3, 1, none⟩ = some (.slice B3 u3 y3))
        (exact hs.cells)
        (first
          | (go_at_call_of 18 (Value.slice A1 p1 q1); refine (add_num hv.b hv.a).mono ?_; rintro e W5 ⟨U51, rfl, hr, hk⟩; replace hs := hs.below hk; replace hv := hv.below hk; replace k4 := k4.trans' hk)
          | (go_at_call_of 15 (Value.slice B1 u1 y1); refine (same_num hr hv.r1 (Int.add_comm y x) (by omega)).mono ?_; rintro e W5 ⟨rfl, hk⟩; replace hs := hs.below hk; replace hv := hv.below hk; replace k4 := k4.trans' hk)
          | (go_at_call_of 20 (Value.slice A2 p2 q2); refine (mul_num hv.b hv.a).mono ?_; rintro e W5 ⟨U57, rfl, hr, hk⟩; replace hs := hs.below hk; replace hv := hv.below hk; replace k4 := k4.trans' hk)
          | (go_at_call_of 15 (Value.slice B3 u3 y3); refine (same_num hr hv.r3 (Int.mul_comm y x) (by omega)).mono ?_; rintro e W5 ⟨rfl, hk⟩; replace hs := hs.below hk; replace hv := hv.below hk; replace k4 := k4.trans' hk)
          | (go_at_call_of 18 (Value.slice B2 u2 y2); refine (add_num (hv.r2.num (by omega)) hv.b).mono ?_; rintro e W5 ⟨U64, rfl, hp, hk⟩; replace hs := hs.below hk; replace hv := hv.below hk; replace k4 := k4.trans' hk)
          | (go_at_call 24; refine (rvalue_num hv.a).mono ?_; rintro e W5 ⟨U66, rfl, hr, hk⟩; replace hs := hs.below hk; replace hv := hv.below hk; replace k4 := k4.trans' hk; replace hp := hp.below hk)
          | (go_at_call_of 15 U64; refine (same_num hp hr (by omega) (by omega)).mono ?_; rintro e W5 ⟨rfl, hk⟩; replace hs := hs.below hk; replace hv := hv.below hk; replace k4 := k4.trans' hk)
          | (go_at_call_of 18 (Value.slice A3 p3 q3); refine (add_num hv.b hv.c).mono ?_; rintro e W5 ⟨U73, rfl, hr, hk⟩; replace hs := hs.below hk; replace hv := hv.below hk; replace k4 := k4.trans' hk)
          | (go_at_call_of 20 U73; refine (mul_num hv.a (hr.num (by omega))).mono ?_; rintro e W5 ⟨U74, rfl, hp, hk⟩; replace hs := hs.below hk; replace hv := hv.below hk; replace k4 := k4.trans' hk)
          | (go_at_call_of 20 (Value.slice A3 p3 q3); refine (mul_num hv.a hv.c).mono ?_; rintro e W5 ⟨U78, rfl, hr, hk⟩; replace hs := hs.below hk; replace hv := hv.below hk; replace k4 := k4.trans' hk; replace hp := hp.below hk)
          | (go_at_call_of 18 U78; refine (add_num (hv.r3.num (by omega)) (hr.num (by omega))).mono ?_; rintro e W5 ⟨U79, rfl, hr, hk⟩; replace hs := hs.below hk; replace hv := hv.below hk; replace k4 := k4.trans' hk; replace hp := hp.below hk)
          | (go_at_call_of 15 U79; refine (same_num hp hr (Int.mul_add x y z) (by omega)).mono ?_; rintro e W5 ⟨rfl, hk⟩; replace hs := hs.below hk; replace hv := hv.below hk; replace k4 := k4.trans' hk))
      go_wp2
      go_ret
      exact ⟨rfl, k4⟩
end Go.Proofs.YthgbgoidnnfapaaDoor
