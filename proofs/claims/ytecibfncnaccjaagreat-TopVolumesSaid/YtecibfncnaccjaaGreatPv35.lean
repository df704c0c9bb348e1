/- The volume over a triangle: homogeneous; the four patterns of signs; the tangent lies below. No program in sight. The volume over a triangle at whole heights, half a unit lower and higher: it grows and is convex. No program in sight. Blocks that a call may turn; rows of its own that grow. No program in sight. Predictions and residuals: the walks of the small functions, the program's and the document's. The residuals of a raster: the walks. -/
import Derived.Test.YtecibfncnaccjaaGreatPv34
import Derived.Test.YtecibfncnaccjaaGreatPv6
import Derived.Maps.AppendAt
import Derived.Test.YtecibfncnaccjaaGreatProg
import Derived.Shelf.Abstract
import Derived.Shelf.RegionOpen
import Derived.Deep.DeepCutAuto
import Derived.Deep.LoopGhost
namespace Go.Proofs.YtecibfncnaccjaaGreat
theorem tip_two (x y z : Rat) : tipV (2 * x) (2 * y) (2 * z) = 2 * tipV x y z := by
 unfold tipV
 have e : (2 * x - 2 * y) * (2 * x - 2 * z) = 4 * ((x - y) * (x - z)) := by grind
 rw [e]
 by_cases h : (x - y) * (x - z) = 0
 ·rw [h, Rat.mul_zero]; simp only [Rat.div_def, Rat.inv_zero]; grind
 ·grind
theorem cS_two (a b c : Rat) : cS (2 * a) (2 * b) (2 * c) = 2 * cS a b c := by
 unfold cS
 rw [tip_two, tip_two]
 by_cases ha : 0 < a
 ·rw [if_pos (by grind), if_pos ha]; grind
 ·rw [if_neg (by grind), if_neg ha]
  by_cases hc : c ≤ 0
  ·rw [if_pos (by grind), if_pos hc]; grind
  ·rw [if_neg (by grind), if_neg hc]
   by_cases hb : b ≤ 0
   ·rw [if_pos (by grind), if_pos hb]
   ·rw [if_neg (by grind), if_neg hb]; grind
theorem cV_two (x y z : Rat) : cV (2 * x) (2 * y) (2 * z) = 2 * cV x y z := by
 obtain ⟨a, b, c, -, h1, h2, hp⟩ := srtR_3 x y z
 simp only [List.cons.injEq, and_true] at hp
 rw [cV_sorted h1 h2 hp, cV_sorted (a := 2 * a) (b := 2 * b) (c := 2 * c) (by grind) (by grind) (by rcases hp with ⟨rfl, rfl, rfl⟩ | ⟨rfl, rfl, rfl⟩ | ⟨rfl, rfl, rfl⟩ | ⟨rfl, rfl, rfl⟩ | ⟨rfl, rfl, rfl⟩ | ⟨rfl, rfl, rfl⟩ <;> simp), cS_two]
theorem cS_p3 {a b c : Rat} (h1 : a ≤ b) (h2 : b ≤ c) (h : 0 ≤ a) : cS a b c = (a + b + c) / 3 := by
 rw [← upT_cS h1 h2]
 unfold upT
 rw [if_pos h, third_mean]
theorem cS_p0 {a b c : Rat} (h1 : a ≤ b) (h2 : b ≤ c) (h : c ≤ 0) : cS a b c = 0 := by
 unfold cS
 rw [if_neg (by grind), if_pos h]
theorem cS_p1 {a b c : Rat} (h1 : a ≤ b) (hb : b ≤ 0) (hc : 0 ≤ c) : cS a b c = tipV c a b := by
 unfold cS
 rw [if_neg (by grind)]
 by_cases h : c ≤ 0
 ·obtain rfl : c = 0 := by grind
  rw [if_pos h, tip_zero]
 ·rw [if_neg h, if_pos hb]
theorem cS_p2 {a b c : Rat} (h2 : b ≤ c) (ha : a ≤ 0) (hb : 0 ≤ b) : cS a b c = (a + b + c) / 3 - tipV a b c := by
 unfold cS
 rw [if_neg (by grind)]
 by_cases h : c ≤ 0
 ·obtain rfl : c = 0 := by grind
  obtain rfl : b = 0 := by grind
  rw [if_pos h]
  by_cases h0 : a = 0
  ·rw [h0, tip_zero]; grind
  ·rw [tip_z2 h0]; grind
 ·rw [if_neg h]
  by_cases hb0 : b ≤ 0
  ·obtain rfl : b = 0 := by grind
   rw [if_pos hb0]
   unfold tipV
   by_cases h0 : a = 0
   ·subst h0; grind
   ·have : c - a ≠ 0 := by grind
    have : a - c ≠ 0 := by grind
    have : c ≠ 0 := by grind
    grind
  ·rw [if_neg hb0]
theorem tip_tan {x y z t : Rat} (hD : 0 < (x - y) * (x - z)) (h : 0 ≤ 3 * x + t) : tipV x y z + t * shR x y z ≤ tipV (x + t) (y + t) (z + t) := by
 unfold tipV shR
 have e : (x + t - (y + t)) * (x + t - (z + t)) = (x - y) * (x - z) := by grind
 rw [e]
 have hI : 0 ≤ ((x - y) * (x - z))⁻¹ := Rat.le_of_lt (Rat.inv_pos.2 hD)
 have ht : 0 ≤ t * t := by
  by_cases h0 : 0 ≤ t
  ·exact Rat.mul_nonneg h0 h0
  ·have := Rat.mul_nonneg (a := -t) (b := -t) (by grind) (by grind)
   grind
 have hk := Rat.mul_nonneg (Rat.mul_nonneg ht h) hI
 simp only [Rat.div_def]
 grind
theorem sh_nonneg {x y z : Rat} (hD : 0 ≤ (x - y) * (x - z)) : 0 ≤ shR x y z := by
 unfold shR
 have hx : 0 ≤ x * x := by
  by_cases h0 : 0 ≤ x
  ·exact Rat.mul_nonneg h0 h0
  ·have := Rat.mul_nonneg (a := -x) (b := -x) (by grind) (by grind)
   grind
 rw [Rat.div_def]
 refine Rat.mul_nonneg hx ?_
 rcases Rat.le_iff_lt_or_eq.1 hD with h | h
 ·exact Rat.le_of_lt (Rat.inv_pos.2 h)
 ·rw [← h, Rat.inv_zero]; exact Rat.le_refl
theorem sh_le1 {x y z : Rat} (hD : 0 < (x - y) * (x - z)) (h : x * x ≤ (x - y) * (x - z)) : shR x y z ≤ 1 := by
 unfold shR
 have hI := Rat.inv_pos.2 hD
 have h1 := Rat.mul_nonneg (a := (x - y) * (x - z) - x * x) (b := ((x - y) * (x - z))⁻¹) (by grind) (Rat.le_of_lt hI)
 have h2 : (x - y) * (x - z) * ((x - y) * (x - z))⁻¹ = 1 := Rat.mul_inv_cancel _ (by grind)
 rw [Rat.div_def]
 grind
theorem sh_01 {x y z : Rat} (h : (0 < x ∧ y ≤ 0 ∧ z ≤ 0) ∨ (x ≤ 0 ∧ 0 < y ∧ 0 < z)) : 0 ≤ shR x y z ∧ shR x y z ≤ 1 := by
 rcases h with ⟨h1, h2, h3⟩ | ⟨h1, h2, h3⟩
 ·have hD := Rat.mul_pos (a := x - y) (b := x - z) (by grind) (by grind)
  refine ⟨sh_nonneg (Rat.le_of_lt hD), sh_le1 hD ?_⟩
  have a1 := Rat.mul_nonneg (a := x) (b := -y) (by grind) (by grind)
  have a2 := Rat.mul_nonneg (a := x) (b := -z) (by grind) (by grind)
  have a3 := Rat.mul_nonneg (a := -y) (b := -z) (by grind) (by grind)
  grind
 ·have hD := Rat.mul_pos (a := y - x) (b := z - x) (by grind) (by grind)
  have hD2 : 0 < (x - y) * (x - z) := by grind
  refine ⟨sh_nonneg (Rat.le_of_lt hD2), sh_le1 hD2 ?_⟩
  have a1 := Rat.mul_nonneg (a := -x) (b := y) (by grind) (by grind)
  have a2 := Rat.mul_nonneg (a := -x) (b := z) (by grind) (by grind)
  have a3 := Rat.mul_nonneg (a := y) (b := z) (by grind) (by grind)
  grind
theorem restA_01 (x y z t : Rat) (h0 : 0 ≤ t) (h1 : t ≤ 1) : 0 ≤ restA x y z t ∧ restA x y z t ≤ 1 := by unfold restA; grind
theorem cA_01 (x y z : Rat) : 0 ≤ cT shR restA (x, y, z) ∧ cT shR restA (x, y, z) ≤ 1 := by
 by_cases hx : 0 < x <;> by_cases hy : 0 < y <;> by_cases hz : 0 < z
 ·rw [cT_all hx hy hz]; exact restA_01 _ _ _ _ Rat.le_refl (by grind)
 ·rw [cT_dn3 hx hy (Rat.not_lt.1 hz)]
  have := sh_01 (x := z) (y := x) (z := y) (.inr ⟨Rat.not_lt.1 hz, hx, hy⟩)
  exact restA_01 _ _ _ _ this.1 this.2
 ·rw [cT_dn2 hx (Rat.not_lt.1 hy) hz]
  have := sh_01 (x := y) (y := z) (z := x) (.inr ⟨Rat.not_lt.1 hy, hz, hx⟩)
  exact restA_01 _ _ _ _ this.1 this.2
 ·rw [cT_up1 hx (Rat.not_lt.1 hy) (Rat.not_lt.1 hz)]
  exact sh_01 (.inl ⟨hx, Rat.not_lt.1 hy, Rat.not_lt.1 hz⟩)
 ·rw [cT_dn1 (Rat.not_lt.1 hx) hy hz]
  have := sh_01 (x := x) (y := y) (z := z) (.inr ⟨Rat.not_lt.1 hx, hy, hz⟩)
  exact restA_01 _ _ _ _ this.1 this.2
 ·rw [cT_up2 (Rat.not_lt.1 hx) hy (Rat.not_lt.1 hz)]
  exact sh_01 (.inl ⟨hy, Rat.not_lt.1 hz, Rat.not_lt.1 hx⟩)
 ·rw [cT_up3 (Rat.not_lt.1 hx) (Rat.not_lt.1 hy) hz]
  exact sh_01 (.inl ⟨hz, Rat.not_lt.1 hx, Rat.not_lt.1 hy⟩)
 ·rw [cT_none (Rat.not_lt.1 hx) (Rat.not_lt.1 hy) (Rat.not_lt.1 hz)]
  exact ⟨Rat.le_refl, by grind⟩
def aK (k : Nat) (a b c : Rat) : Rat := match k with | 0 => 0 | 1 => shR c a b | 2 => 1 - shR a b c | _ => 1
def patK (k : Nat) (a b c : Rat) : Prop := match k with | 0 => c ≤ 0 | 1 => b ≤ 0 ∧ 0 ≤ c | 2 => a ≤ 0 ∧ 0 ≤ b | _ => 0 ≤ a
theorem cS_tan {k : Nat} {a b c t : Rat} (h1 : a ≤ b) (h2 : b ≤ c) (hp : patK k a b c) (hq : patK k (a + t) (b + t) (c + t)) (hs : k = 1 → b < c) (hs2 : k = 2 → a < b) : cS a b c + t * aK k a b c ≤ cS (a + t) (b + t) (c + t) := by
 have e1 : a + t ≤ b + t := by grind
 have e2 : b + t ≤ c + t := by grind
 match k, hp, hq, hs, hs2 with
 | 0, hp, hq, _, _ =>
  simp only [patK] at hp hq
  rw [cS_p0 h1 h2 hp, cS_p0 e1 e2 hq]
  simp only [aK]
  grind
 | 1, hp, hq, hs, _ =>
  simp only [patK] at hp hq
  have := hs rfl
  rw [cS_p1 h1 hp.1 hp.2, cS_p1 e1 hq.1 hq.2]
  exact tip_tan (Rat.mul_pos (by grind) (by grind)) (by grind)
 | 2, hp, hq, _, hs =>
  simp only [patK] at hp hq
  have := hs rfl
  rw [cS_p2 h2 hp.1 hp.2, cS_p2 e2 hq.1 hq.2]
  have hD := Rat.mul_pos (a := b - a) (b := c - a) (by grind) (by grind)
  have ht := tip_tan (x := -a) (y := -b) (z := -c) (t := -t) (by grind) (by grind)
  have es : shR (-a) (-b) (-c) = shR a b c := by
   unfold shR
   rw [show (-a - -b) * (-a - -c) = (a - b) * (a - c) by grind, show -a * -a = a * a by grind]
  rw [show -a + -t = -(a + t) by grind, show -b + -t = -(b + t) by grind, show -c + -t = -(c + t) by grind, tip_neg, tip_neg, es] at ht
  simp only [aK]
  grind
 | k + 3, hp, hq, _, _ =>
  simp only [patK] at hp hq
  rw [cS_p3 h1 h2 hp, cS_p3 e1 e2 hq]
  simp only [aK]
  grind
theorem aK_nonneg {k : Nat} {a b c : Rat} (h1 : a ≤ b) (h2 : b ≤ c) (hp : patK k a b c) (hs : k = 1 → b < c) (hs2 : k = 2 → a < b) : 0 ≤ aK k a b c := by
 match k, hp, hs, hs2 with
 | 0, hp, _, _ => exact Rat.le_refl
 | 1, hp, hs, _ =>
  simp only [patK] at hp
  have := hs rfl
  exact sh_nonneg (Rat.mul_nonneg (by grind) (by grind))
 | 2, hp, _, hs =>
  simp only [patK] at hp
  have := hs rfl
  simp only [aK]
  have hD := Rat.mul_pos (a := b - a) (b := c - a) (by grind) (by grind)
  have hD2 : 0 < (a - b) * (a - c) := by grind
  have a1 := Rat.mul_nonneg (a := -a) (b := b) (by grind) (by grind)
  have a2 := Rat.mul_nonneg (a := -a) (b := c) (by grind) (by grind)
  have a3 := Rat.mul_nonneg (a := b) (b := c) (by grind) (by grind)
  have := sh_le1 (x := a) (y := b) (z := c) hD2 (by grind)
  grind
 | k + 3, hp, _, _ => simp only [aK]; grind
theorem sh_0 (y z : Rat) : shR 0 y z = 0 := by
 unfold shR
 rw [Rat.zero_mul, Rat.div_def, Rat.zero_mul]
theorem sh_1 {x : Rat} (h : x ≠ 0) : shR x 0 0 = 1 := by
 unfold shR
 grind
theorem half_of {km kp : Nat} {a b c : Rat} (h1 : a ≤ b) (h2 : b ≤ c) (p1 : patK kp a b c) (p2 : patK kp (a + 1 / 2) (b + 1 / 2) (c + 1 / 2)) (m1 : patK km a b c) (m2 : patK km (a + -1 / 2) (b + -1 / 2) (c + -1 / 2))
 (s1 : kp = 1 → b < c) (s2 : kp = 2 → a < b) (r1 : km = 1 → b < c) (r2 : km = 2 → a < b) (hA : aK km a b c ≤ aK kp a b c) :
 cS (a + -1 / 2) (b + -1 / 2) (c + -1 / 2) ≤ cS a b c ∧ cS a b c ≤ cS (a + 1 / 2) (b + 1 / 2) (c + 1 / 2) ∧ 2 * cS a b c ≤ cS (a + -1 / 2) (b + -1 / 2) (c + -1 / 2) + cS (a + 1 / 2) (b + 1 / 2) (c + 1 / 2) := by
 have t1 := cS_tan (t := 1 / 2) h1 h2 p1 p2 s1 s2
 have t2 := cS_tan (t := -1 / 2) h1 h2 m1 m2 r1 r2
 have t3 := cS_tan (k := km) (a := a + -1 / 2) (b := b + -1 / 2) (c := c + -1 / 2) (t := 1 / 2) (by grind) (by grind) m2 (by rw [show a + -1 / 2 + 1 / 2 = a by grind, show b + -1 / 2 + 1 / 2 = b by grind, show c + -1 / 2 + 1 / 2 = c by grind]; exact m1) (by grind) (by grind)
 rw [show a + -1 / 2 + 1 / 2 = a by grind, show b + -1 / 2 + 1 / 2 = b by grind, show c + -1 / 2 + 1 / 2 = c by grind] at t3
 have n1 := aK_nonneg h1 h2 p1 s1 s2
 have n3 := aK_nonneg (k := km) (a := a + -1 / 2) (b := b + -1 / 2) (c := c + -1 / 2) (by grind) (by grind) m2 (by grind) (by grind)
 refine ⟨?_, ?_, ?_⟩ <;> grind
def gapR (x : Rat) : Prop := x ≤ -1 ∨ x = 0 ∨ 1 ≤ x
theorem cS_half {a b c : Rat} (h1 : a ≤ b) (h2 : b ≤ c) (ga : gapR a) (gb : gapR b) (gc : gapR c) :
 cS (a + -1 / 2) (b + -1 / 2) (c + -1 / 2) ≤ cS a b c ∧ cS a b c ≤ cS (a + 1 / 2) (b + 1 / 2) (c + 1 / 2) ∧ 2 * cS a b c ≤ cS (a + -1 / 2) (b + -1 / 2) (c + -1 / 2) + cS (a + 1 / 2) (b + 1 / 2) (c + 1 / 2) := by
 rcases ga with ga | ga | ga
 ·rcases gb with gb | gb | gb
  ·rcases gc with gc | gc | gc
   ·exact half_of (km := 0) (kp := 0) h1 h2 (by simp only [patK]; grind) (by simp only [patK]; grind) (by simp only [patK]; grind) (by simp only [patK]; grind) (by simp) (by simp) (by simp) (by simp) Rat.le_refl
   ·refine half_of (km := 0) (kp := 1) h1 h2 (by simp only [patK]; grind) (by simp only [patK]; grind) (by simp only [patK]; grind) (by simp only [patK]; grind) (by grind) (by simp) (by simp) (by simp) ?_
    simp only [aK]; rw [gc, sh_0]; exact Rat.le_refl
   ·exact half_of (km := 1) (kp := 1) h1 h2 (by simp only [patK]; grind) (by simp only [patK]; grind) (by simp only [patK]; grind) (by simp only [patK]; grind) (by grind) (by simp) (by grind) (by simp) Rat.le_refl
  ·rcases gc with gc | gc | gc
   ·exact absurd h2 (by grind)
   ·refine half_of (km := 0) (kp := 2) h1 h2 (by simp only [patK]; grind) (by simp only [patK]; grind) (by simp only [patK]; grind) (by simp only [patK]; grind) (by simp) (by grind) (by simp) (by simp) ?_
    simp only [aK]; rw [gb, gc, sh_1 (by grind)]; grind
   ·refine half_of (km := 1) (kp := 2) h1 h2 (by simp only [patK]; grind) (by simp only [patK]; grind) (by simp only [patK]; grind) (by simp only [patK]; grind) (by simp) (by grind) (by grind) (by simp) ?_
    simp only [aK]; subst gb; unfold shR
    have : c - a ≠ 0 := by grind
    have : a - c ≠ 0 := by grind
    have : a ≠ 0 := by grind
    have : c ≠ 0 := by grind
    have e : c * c / ((c - a) * (c - 0)) = 1 - a * a / ((a - 0) * (a - c)) := by grind
    rw [e]; exact Rat.le_refl
  ·exact half_of (km := 2) (kp := 2) h1 h2 (by simp only [patK]; grind) (by simp only [patK]; grind) (by simp only [patK]; grind) (by simp only [patK]; grind) (by simp) (by grind) (by simp) (by grind) Rat.le_refl
 ·rcases gb with gb | gb | gb
  ·exact absurd h1 (by grind)
  ·rcases gc with gc | gc | gc
   ·exact absurd h2 (by grind)
   ·refine half_of (km := 0) (kp := 3) h1 h2 (by simp only [patK]; grind) (by simp only [patK]; grind) (by simp only [patK]; grind) (by simp only [patK]; grind) (by simp) (by simp) (by simp) (by simp) ?_
    simp only [aK]; grind
   ·refine half_of (km := 1) (kp := 3) h1 h2 (by simp only [patK]; grind) (by simp only [patK]; grind) (by simp only [patK]; grind) (by simp only [patK]; grind) (by simp) (by simp) (by grind) (by simp) ?_
    simp only [aK]; rw [ga, gb, sh_1 (by grind)]; exact Rat.le_refl
  ·refine half_of (km := 2) (kp := 3) h1 h2 (by simp only [patK]; grind) (by simp only [patK]; grind) (by simp only [patK]; grind) (by simp only [patK]; grind) (by simp) (by simp) (by simp) (by grind) ?_
   simp only [aK]; rw [ga, sh_0]; grind
 ·exact half_of (km := 3) (kp := 3) h1 h2 (by simp only [patK]; grind) (by simp only [patK]; grind) (by simp only [patK]; grind) (by simp only [patK]; grind) (by simp) (by simp) (by simp) (by simp) Rat.le_refl
theorem cV_half {x y z : Rat} (gx : gapR x) (gy : gapR y) (gz : gapR z) :
 cV (x + -1 / 2) (y + -1 / 2) (z + -1 / 2) ≤ cV x y z ∧ cV x y z ≤ cV (x + 1 / 2) (y + 1 / 2) (z + 1 / 2) ∧ 2 * cV x y z ≤ cV (x + -1 / 2) (y + -1 / 2) (z + -1 / 2) + cV (x + 1 / 2) (y + 1 / 2) (z + 1 / 2) := by
 obtain ⟨a, b, c, -, h1, h2, hp⟩ := srtR_3 x y z
 simp only [List.cons.injEq, and_true] at hp
 have hg : gapR a ∧ gapR b ∧ gapR c := by
  rcases hp with ⟨rfl, rfl, rfl⟩ | ⟨rfl, rfl, rfl⟩ | ⟨rfl, rfl, rfl⟩ | ⟨rfl, rfl, rfl⟩ | ⟨rfl, rfl, rfl⟩ | ⟨rfl, rfl, rfl⟩ <;> exact ⟨by assumption, by assumption, by assumption⟩
 have e : ∀ t : Rat, cV (x + t) (y + t) (z + t) = cS (a + t) (b + t) (c + t) := fun t => cV_sorted (by grind) (by grind) (by
  rcases hp with ⟨rfl, rfl, rfl⟩ | ⟨rfl, rfl, rfl⟩ | ⟨rfl, rfl, rfl⟩ | ⟨rfl, rfl, rfl⟩ | ⟨rfl, rfl, rfl⟩ | ⟨rfl, rfl, rfl⟩ <;> simp)
 rw [e, e, cV_sorted h1 h2 hp]
 exact cS_half h1 h2 hg.1 hg.2.1 hg.2.2
theorem gap_int (z : Int) : gapR (z : Rat) := by
 unfold gapR
 rcases Int.lt_trichotomy z 0 with h | h | h
 ·have h1 : z ≤ -1 := by omega
  exact .inl (by have := Rat.intCast_le_intCast.2 h1; simpa using this)
 ·exact .inr (.inl (by rw [h]; rfl))
 ·have h1 : 1 ≤ z := by omega
  exact .inr (.inr (by have := Rat.intCast_le_intCast.2 h1; simpa using this))
end Go.Proofs.YtecibfncnaccjaaGreat
namespace Go.Proofs.YtecibfncnaccjaaGreat
open Go.RowKit

structure Turn (T : List Nat) (w w' : World) : Prop where
 os : w'.os = w.os
 tape : w'.tape = w.tape
 output : w'.output = w.output
 size : w.heap.size ≤ w'.heap.size
 block : ∀ k, k < w.heap.size → k ∉ T → w'.heap[k]? = w.heap[k]?
abbrev blkOf (v : Value) : List Nat := v.ownBlock.toList
section
variable {T T' : List Nat} {w w' w1 : World} {B : Nat}
theorem Turn.of_below (h : Below B w w') (hT : ∀ k, k < w.heap.size → B ≤ k → k ∈ T) : Turn T w w' :=
 ⟨h.os, h.tape, h.output, h.size, fun k hk hn => h.block k (Nat.lt_of_not_le fun hB => hn (hT k hk hB))⟩
theorem Turn.of_keeps (h : Keeps w w') : Turn T w w' := .of_below h fun _ h1 h2 => absurd h1 (by omega)
theorem Turn.refl (w : World) : Turn T w w := ⟨rfl, rfl, rfl, Nat.le_refl _, fun _ _ _ => rfl⟩
theorem Turn.below (h : Turn T w w') (hT : ∀ k ∈ T, B ≤ k) (hB : B ≤ w.heap.size) : Below B w w' :=
 ⟨h.os, h.tape, h.output, h.size, fun k hk => h.block k (by omega) fun hm => by have := hT k hm; omega⟩
theorem Turn.keeps (h : Turn T w w') (hT : ∀ k ∈ T, w.heap.size ≤ k) : Keeps w w' := h.below hT (Nat.le_refl _)
theorem Turn.trans (h : Turn T w w1) (h1 : Turn T' w1 w') (hT : ∀ k ∈ T', k < w.heap.size → k ∈ T) : Turn T w w' :=
 ⟨h1.os.trans h.os, h1.tape.trans h.tape, h1.output.trans h.output, Nat.le_trans h.size h1.size, fun k hk hn =>
  (h1.block k (Nat.lt_of_lt_of_le hk h.size) fun hm => hn (hT k hm hk)).trans (h.block k hk hn)⟩
theorem Turn.mono (h : Turn T w w') (hT : ∀ k ∈ T, k ∈ T') : Turn T' w w' :=
 ⟨h.os, h.tape, h.output, h.size, fun k hk hn => h.block k hk fun hm => hn (hT k hm)⟩
theorem Turn.set (h : Turn T w w') {p : Addr} (hp : p.block ∈ T) (u : Value) : Turn T w (w'.setCell p u) :=
 ⟨h.os, h.tape, h.output, by simpa [World.setCell] using h.size, fun k hk hn =>
  (Below.heap_setCell w' p u k (fun e => hn (e ▸ hp))).trans (h.block k hk hn)⟩
theorem Turn.alloc (h : Turn T w w') (o : Obj) : Turn T w (w'.alloc o) :=
 h.trans (T' := []) (Turn.of_keeps (bl.alloc (Nat.le_refl _) _)) (by simp)
theorem Turn.drew (h : Turn T w w') : Turn T w w'.drew := ⟨h.os, h.tape, h.output, h.size, h.block⟩
theorem Turn.drewN (h : Turn T w w') (n : Nat) : Turn T w (w'.drewN n) := ⟨h.os, h.tape, h.output, h.size, h.block⟩
theorem Turn.of_grown {v : Value} (h : w.grownBy w' v.ownBlock) : Turn (blkOf v) w w' :=
 ⟨h.os, h.tape, h.output, h.size, fun k hk hn => h.block k hk fun e => hn (by rw [blkOf, ← e]; simp)⟩
theorem Own.turn {b : Nat} {t : TypeId} {vs : List Value} (h : Own w b t vs) (ht : Turn T w w') (hb : b ∉ T) : Own w' b t vs := (ht.block b h.lt hb).trans h
section
variable {base : Nat} {e : TypeId} {size : Nat} {v : Value} {n : Nat} {xs : List Value}
theorem _root_.Go.World.ownsRow.turn (h : w.ownsRow base e size v n xs) (ht : Turn T w w') (hv : ∀ k ∈ blkOf v, k ∉ T) : w'.ownsRow base e size v n xs := by
 obtain ⟨hl, ⟨rfl, rfl⟩ | ⟨g, cap, cur, rfl, hb, hg, hr⟩⟩ := h
 ·exact ⟨hl, .inl ⟨rfl, rfl⟩⟩
 ·have hlt : g < w.heap.size := (Array.getElem?_eq_some_iff.1 hg).1
  exact ⟨hl, .inr ⟨g, cap, cur, rfl, hb, (ht.block g hlt (hv g (by simp [blkOf, Value.ownBlock]))).trans hg, hr⟩⟩
theorem _root_.Go.World.ownsRow.keeps (h : w.ownsRow base e size v n xs) (hk : Keeps w w') : w'.ownsRow base e size v n xs := h.turn (Turn.of_keeps (T := []) hk) (by simp)
theorem _root_.Go.World.ownsRow.down {base' : Nat} (h : w.ownsRow base e size v n xs) (hb : base' ≤ base) : w.ownsRow base' e size v n xs := by
 obtain ⟨hl, h | ⟨g, cap, cur, rfl, hb', hr⟩⟩ := h
 ·exact ⟨hl, .inl h⟩
 ·exact ⟨hl, .inr ⟨g, cap, cur, rfl, Nat.le_trans hb hb', hr⟩⟩
theorem _root_.Go.World.ownsRow.sl (h : w.ownsRow base e size v n xs) : ∃ A c, v = .slice A n c ∧ n ≤ c ∧ c ≤ maxLen ∧ (A = none → c = 0) := by
 obtain ⟨hl, ⟨rfl, rfl⟩ | ⟨g, cap, cur, rfl, hb, hg, h1, h2, hr⟩⟩ := h
 ·exact ⟨none, 0, rfl, Nat.le_refl _, by simp [maxLen], fun _ => rfl⟩
 ·exact ⟨_, cap, rfl, h1, h2, fun e => by cases e⟩
theorem _root_.Go.World.ownsRow.lo (h : w.ownsRow base e size v n xs) : ∀ k ∈ blkOf v, base ≤ k ∧ k < w.heap.size := fun k hk => by
 simp only [blkOf, Option.mem_toList] at hk
 exact h.lt k hk
end
end
def at' (xs : List Value) (j : Nat) : Value := xs.getD j undef
abbrev Cells (w : World) (A : Option Addr) (xs : List Value) : Prop := Row w A xs.length (at' xs)
theorem at'_get {xs : List Value} {j : Nat} {v : Value} (h : xs[j]? = some v) : at' xs j = v := by simp [at', h]
theorem Cells.get {w : World} {A : Option Addr} {xs : List Value} (h : Cells w A xs) {j : Nat} {v : Value} (hj : xs[j]? = some v) : ∃ b o, A = some ⟨b, o, none⟩ ∧ b < w.heap.size ∧ w.cell? ⟨b, o + j, none⟩ = some v := by
 have hlt := (List.getElem?_eq_some_iff.1 hj).1
 obtain ⟨b, o, e, hb, hc⟩ := h (by omega)
 exact ⟨b, o, e, hb, by rw [hc j hlt, at'_get hj]⟩
theorem _root_.Go.World.ownsRow.cells' {w : World} {base : Nat} {e : TypeId} {size : Nat} {A : Option Addr} {n c : Nat} {xs : List Value} (h : w.ownsRow base e size (.slice A n c) n xs) : Cells w A xs := fun hp => by
 obtain ⟨hl, ⟨h1, rfl⟩ | ⟨g, cap, cur, h1, hb, hg, h2, h3, h4, h5⟩⟩ := h
 ·omega
 ·cases h1
  refine ⟨g, 0, rfl, (Array.getElem?_eq_some_iff.1 hg).1, fun j hj => ?_⟩
  rw [cell_of_row w g (0 + j) cur _ _ hg, Nat.zero_add, at', ← h5]
  have hj2 : j < n * size := by omega
  have hj3 : j < cur.size := by rw [← h5] at hj; simp at hj; omega
  simp [List.getD, hj2, hj3]
end Go.Proofs.YtecibfncnaccjaaGreat
namespace Go.Proofs.YtecibfncnaccjaaGreat
open Go.RowKit Go.Shelf

def iv (l : List Int) (j : Nat) : Value := .int .i64 (l.getD j 0)
abbrev IRow (w : World) (A : Option Addr) (l : List Int) : Prop := Row w A l.length (iv l)
def Grey (m : Int) (l : List Int) : Prop := ∀ x ∈ l, 0 ≤ x ∧ x ≤ m
theorem Grey.get {m : Int} {l : List Int} (h : Grey m l) (hm : 0 ≤ m) (j : Nat) : 0 ≤ l.getD j 0 ∧ l.getD j 0 ≤ m := by
 rw [List.getD_eq_getElem?_getD]
 cases hj : l[j]? with
 | none => simp [hm]
 | some x => simpa using h x (List.mem_of_getElem? hj)
theorem IRow.at {w : World} {A : Option Addr} {l : List Int} (h : IRow w A l) {j : Nat} (hj : j < l.length) : ∃ b o, A = some ⟨b, o, none⟩ ∧ w.cell? ⟨b, o + j, none⟩ = some (.int .i64 (l.getD j 0)) := by
 obtain ⟨b, o, e, -, hc⟩ := h (by omega)
 exact ⟨b, o, e, hc j hj⟩
def i64s (l : List Int) : List Value := l.map fun x => .int .i64 x
theorem i64s_length (l : List Int) : (i64s l).length = l.length := by simp [i64s]
abbrev IOwn (w : World) (base : Nat) (V : Value) (l : List Int) : Prop := w.ownsRow base 3 1 V l.length (i64s l)
theorem _root_.Go.World.ownsRow.irow {w : World} {base : Nat} {A : Option Addr} {n c : Nat} {l : List Int} (h : IOwn w base (.slice A n c) l) (hn : n = l.length) : IRow w A l := by
 subst hn
 have := h.cells'
 rw [Cells, i64s_length] at this
 refine this.congr fun j hj => ?_
 simp [at', i64s, iv, List.getD, hj]

theorem IRow.of_own {w : World} {base : Nat} {A : Option Addr} {n c : Nat} {l : List Int} (h : w.ownsRow base 3 1 (.slice A n c) n (i64s l)) (hn : n = l.length) : IRow w A l := by
 subst hn
 exact World.ownsRow.irow h rfl

end Go.Proofs.YtecibfncnaccjaaGreat
