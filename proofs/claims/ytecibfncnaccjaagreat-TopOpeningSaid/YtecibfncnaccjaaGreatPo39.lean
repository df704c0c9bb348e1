/- volume.Triangle: the walk. -/
import Derived.Test.YtecibfncnaccjaaGreatPo32
import Derived.Test.YtecibfncnaccjaaGreatPo38
import Derived.Test.YtecibfncnaccjaaGreatPo37
import Derived.Deep.RegionHeld3
namespace Go.Proofs.YtecibfncnaccjaaGreat
open Go.RowKit Go.Shelf
def vt1Φ (x y z : Rat) (Vx Vy Vz : Value) (B0 : Nat) : Nat → Value → World → Prop
 | 0, v, _ => v = Vx
 | 1, v, w => RatRep w v x
 | 2, v, _ => v = Vy
 | 3, v, w => RatRep w v y
 | 4, v, _ => v = Vz
 | 5, v, w => RatRep w v z
 | 6, v, w => ∃ b e0 e1 e2, v = .slice (some ⟨b, 0, none⟩) 3 3 ∧ B0 ≤ b ∧ RowQ w b [e0, e1, e2] ∧ e0.q = x ∧ e1.q = y ∧ e2.q = z
 | _, _, _ => True
theorem szR_pk (x y z : Rat) : szR (x * (x * x) / (3 * ((x - y) * (x - z)))) ≤ 5 * szR x + szR y + szR z + 6 := by
 have h0 : szR (3 : Rat) ≤ 1 := by decide +kernel
 have h1 := szR_div' (x * (x * x)) (3 * ((x - y) * (x - z)))
 have h2 := szR_mul x (x * x)
 have h3 := szR_mul x x
 have h4 := szR_mul 3 ((x - y) * (x - z))
 have h5 := szR_mul (x - y) (x - z)
 have h6 := szR_sub x y
 have h7 := szR_sub x z
 omega
theorem szR_sum3 (x y z : Rat) : szR (x + y + z) ≤ szR x + szR y + szR z + 2 := by
 have h1 := szR_add (x + y) z
 have h2 := szR_add x y
 omega
theorem row3 {w : World} {s1 s2 s3 t1 t2 t3 : Bool} {A1 A2 A3 B1 B2 B3 : Option Addr} {n1 n2 n3 c1 c2 c3 m1 m2 m3 e1 e2 e3 : Nat} {x y z : Rat}
 (h1 : RatRep w (.agg #[.bool s1, .slice A1 n1 c1, .bool t1, .slice B1 m1 e1]) x) (h2 : RatRep w (.agg #[.bool s2, .slice A2 n2 c2, .bool t2, .slice B2 m2 e2]) y) (h3 : RatRep w (.agg #[.bool s3, .slice A3 n3 c3, .bool t3, .slice B3 m3 e3]) z)
 (zx : szR x ≤ 8) (zy : szR y ≤ 8) (zz : szR z ≤ 8) :
 RowQ (w.alloc (.cells #[.bool s1, .slice A1 n1 c1, .bool t1, .slice B1 m1 e1, .bool s2, .slice A2 n2 c2, .bool t2, .slice B2 m2 e2, .bool s3, .slice A3 n3 c3, .bool t3, .slice B3 m3 e3] 35)) w.heap.size
  [⟨x, s1, A1, n1, c1, t1, B1, m1, e1⟩, ⟨y, s2, A2, n2, c2, t2, B2, m2, e2⟩, ⟨z, s3, A3, n3, c3, t3, B3, m3, e3⟩] := by
 refine ⟨Own.new w 35 _, ?_, ?_⟩
 ·intro e he
  have hk := box2 w (.cells #[.bool s1, .slice A1 n1 c1, .bool t1, .slice B1 m1 e1, .bool s2, .slice A2 n2 c2, .bool t2, .slice B2 m2 e2, .bool s3, .slice A3 n3 c3, .bool t3, .slice B3 m3 e3] 35)
  simp only [List.mem_cons, List.not_mem_nil, or_false] at he
  rcases he with rfl | rfl | rfl
  ·exact (h1.num (by omega)).below hk
  ·exact (h2.num (by omega)).below hk
  ·exact (h3.num (by omega)).below hk
 ·intro e he
  simp only [List.mem_cons, List.not_mem_nil, or_false] at he
  rcases he with rfl | rfl | rfl <;> rfl
theorem sum3 {w : World} {g : Nat} {s1 s2 s3 t1 t2 t3 : Bool} {A1 A2 A3 B1 B2 B3 : Option Addr} {n1 n2 n3 c1 c2 c3 m1 m2 m3 e1 e2 e3 : Nat} {x y z : Rat}
 (hO : Own w g 35 [.bool s1, .slice A1 n1 c1, .bool t1, .slice B1 m1 e1, .bool s2, .slice A2 n2 c2, .bool t2, .slice B2 m2 e2, .bool s3, .slice A3 n3 c3, .bool t3, .slice B3 m3 e3])
 (h1 : RatNum w (.agg #[.bool s1, .slice A1 n1 c1, .bool t1, .slice B1 m1 e1]) x) (h2 : RatNum w (.agg #[.bool s2, .slice A2 n2 c2, .bool t2, .slice B2 m2 e2]) y) (h3 : RatNum w (.agg #[.bool s3, .slice A3 n3 c3, .bool t3, .slice B3 m3 e3]) z)
 (zx : szR x ≤ 8) (zy : szR y ≤ 8) (zz : szR z ≤ 8) : Calls Tryz.prog 108 #[.slice (some ⟨g, 0, none⟩) 3 3] w (RGives (x + y + z) w) := by
 have hr : Row4 RatNum w (some ⟨g, 0, none⟩) [x, y, z] := by
  intro j q hj
  have hj3 : j = 0 ∨ j = 1 ∨ j = 2 := by
   have := (List.getElem?_eq_some_iff.1 hj).1
   simp at this
   omega
  rcases hj3 with rfl | rfl | rfl
  ·obtain rfl : x = q := by simpa using hj
   exact ⟨g, 0, _, _, _, _, rfl, ⟨hO.cell 0, hO.cell 1, hO.cell 2, hO.cell 3⟩, h1⟩
  ·obtain rfl : y = q := by simpa using hj
   exact ⟨g, 0, _, _, _, _, rfl, ⟨hO.cell 4, hO.cell 5, hO.cell 6, hO.cell 7⟩, h2⟩
  ·obtain rfl : z = q := by simpa using hj
   exact ⟨g, 0, _, _, _, _, rfl, ⟨hO.cell 8, hO.cell 9, hO.cell 10, hO.cell 11⟩, h3⟩
 have hs : sumR [x, y, z] = x + y + z := by simp [sumR, Rat.zero_add]
 have h := fsum_any (c := 3) hr (fun q hq => by
  simp only [List.mem_cons, List.not_mem_nil, or_false] at hq
  rcases hq with rfl | rfl | rfl <;> assumption) (by simp)
 rw [hs] at h
 exact h
section
variable {l0 l1 l2 : Rat} {s1 s2 s3 : Int}
theorem sgnR (x : Rat) : (x < 0 ∧ x.num.sign = -1) ∨ (x = 0 ∧ x.num.sign = 0) ∨ (0 < x ∧ x.num.sign = 1) := by
 rcases Int.lt_trichotomy x.num 0 with h | h | h
 ·exact .inl ⟨Rat.not_le.1 fun h0 => by have := Rat.num_nonneg.2 h0; omega, Int.sign_eq_neg_one_of_neg h⟩
 ·exact .inr (.inl ⟨Rat.num_eq_zero.1 h, by rw [h]; rfl⟩)
 ·refine .inr (.inr ⟨?_, Int.sign_eq_one_of_pos h⟩)
  have h0 : 0 ≤ x := Rat.num_nonneg.1 (by omega)
  exact Rat.lt_of_le_of_ne h0 fun e => by rw [← e] at h; simp at h
theorem ge_of {x : Rat} {s : Int} (h : x.num.sign = s) (t : decide (0 ≤ s) = true) : 0 ≤ x := by
 have := of_decide_eq_true t
 rcases sgnR x with ⟨h1, h2⟩ | ⟨h1, h2⟩ | ⟨h1, h2⟩
 ·omega
 ·rw [h1]; exact Rat.le_refl
 ·exact Rat.le_of_lt h1
theorem lt_of {x : Rat} {s : Int} (h : x.num.sign = s) (t : decide (0 ≤ s) = false) : x < 0 := by
 have := of_decide_eq_false t
 rcases sgnR x with ⟨h1, h2⟩ | ⟨h1, h2⟩ | ⟨h1, h2⟩
 ·exact h1
 ·omega
 ·omega
theorem le_of {x : Rat} {s : Int} (h : x.num.sign = s) (t : decide (s ≤ 0) = true) : x ≤ 0 := by
 have := of_decide_eq_true t
 rcases sgnR x with ⟨h1, h2⟩ | ⟨h1, h2⟩ | ⟨h1, h2⟩
 ·exact Rat.le_of_lt h1
 ·rw [h1]; exact Rat.le_refl
 ·omega
theorem gt_of {x : Rat} {s : Int} (h : x.num.sign = s) (t : decide (s ≤ 0) = false) : 0 < x := by
 have := of_decide_eq_false t
 rcases sgnR x with ⟨h1, h2⟩ | ⟨h1, h2⟩ | ⟨h1, h2⟩
 ·omega
 ·omega
 ·exact h1
theorem upA (h1 : l0.num.sign = s1) (t1 : decide (0 ≤ s1) = true) : Rat.divInt 1 3 * (l0 + l1 + l2) = upT l0 l1 l2 ∧ ((0 : Int) : Rat) = dnT l0 l1 l2 := by
 have := ge_of h1 t1
 unfold upT dnT
 rw [if_pos this, if_pos this]
 exact ⟨rfl, rfl⟩
theorem upB (h1 : l0.num.sign = s1) (h2 : l2.num.sign = s2) (t1 : decide (0 ≤ s1) = false) (t2 : decide (s2 ≤ 0) = true) : ((0 : Int) : Rat) = upT l0 l1 l2 ∧ -(Rat.divInt 1 3 * (l0 + l1 + l2)) = dnT l0 l1 l2 := by
 have a := lt_of h1 t1
 have b := le_of h2 t2
 unfold upT dnT
 rw [if_neg (Rat.not_le.2 a), if_neg (Rat.not_le.2 a), if_pos b, if_pos b]
 exact ⟨rfl, rfl⟩
theorem upC (h1 : l0.num.sign = s1) (h2 : l2.num.sign = s2) (h3 : l1.num.sign = s3) (t1 : decide (0 ≤ s1) = false) (t2 : decide (s2 ≤ 0) = false) (t3 : decide (s3 ≤ 0) = true) :
 l2 * (l2 * l2) / (3 * ((l2 - l0) * (l2 - l1))) = upT l0 l1 l2 ∧ l2 * (l2 * l2) / (3 * ((l2 - l0) * (l2 - l1))) - Rat.divInt 1 3 * (l0 + l1 + l2) = dnT l0 l1 l2 := by
 have a := lt_of h1 t1
 have b := gt_of h2 t2
 have c := le_of h3 t3
 unfold upT dnT
 rw [if_neg (Rat.not_le.2 a), if_neg (Rat.not_le.2 a), if_neg (Rat.not_le.2 b), if_neg (Rat.not_le.2 b), if_pos c, if_pos c]
 exact ⟨rfl, rfl⟩
theorem upD (h1 : l0.num.sign = s1) (h2 : l2.num.sign = s2) (h3 : l1.num.sign = s3) (t1 : decide (0 ≤ s1) = false) (t2 : decide (s2 ≤ 0) = false) (t3 : decide (s3 ≤ 0) = false) :
 -l0 * (-l0 * -l0) / (3 * ((-l0 - -l1) * (-l0 - -l2))) + Rat.divInt 1 3 * (l0 + l1 + l2) = upT l0 l1 l2 ∧ -l0 * (-l0 * -l0) / (3 * ((-l0 - -l1) * (-l0 - -l2))) = dnT l0 l1 l2 := by
 have a := lt_of h1 t1
 have b := gt_of h2 t2
 have c := gt_of h3 t3
 unfold upT dnT
 rw [if_neg (Rat.not_le.2 a), if_neg (Rat.not_le.2 a), if_neg (Rat.not_le.2 b), if_neg (Rat.not_le.2 b), if_neg (Rat.not_le.2 c), if_neg (Rat.not_le.2 c)]
 exact ⟨rfl, rfl⟩
theorem pkA (h1 : l0.num.sign = s1) (h2 : l2.num.sign = s2) (h3 : l1.num.sign = s3) (t1 : decide (0 ≤ s1) = false) (t2 : decide (s2 ≤ 0) = false) (t3 : decide (s3 ≤ 0) = true) : 3 * ((l2 - l0) * (l2 - l1)) ≠ 0 :=
 pk_nz (gt_of h2 t2) (Rat.le_of_lt (lt_of h1 t1)) (le_of h3 t3)
theorem pkB (h1 : l0.num.sign = s1) (h2 : l2.num.sign = s2) (h3 : l1.num.sign = s3) (t1 : decide (0 ≤ s1) = false) (t2 : decide (s2 ≤ 0) = false) (t3 : decide (s3 ≤ 0) = false) : 3 * ((-l0 - -l1) * (-l0 - -l2)) ≠ 0 := by
 have a := lt_of h1 t1
 have b := gt_of h2 t2
 have c := gt_of h3 t3
 exact pk_nz (by grind) (by grind) (by grind)
end
def TriG (p n : Rat) (w : World) (e : Ending) (w' : World) : Prop := ∃ U V p' n', e = .returned (.tuple #[U, V]) ∧ RatRep w' U p' ∧ RatRep w' V n' ∧ (p' = p ∧ n' = n) ∧ Keeps w w'
theorem St.take {w0 w : World} {bs cs : List Bx} {ps : List (World → Prop)} (S : St w0 w (bs ++ cs) ps) : St w0 w bs ps := by
 induction bs with
 | nil => exact ⟨S.k, trivial, (fun p hp => by cases hp), List.Pairwise.nil, S.p⟩
 | cons b bs ih =>
  have h := ih S.dropb
  have hd := List.pairwise_cons.1 S.d
  exact ⟨S.k, ⟨S.b.1, h.b⟩, fun p hp => S.lo p (by rcases List.mem_cons.1 hp with rfl | hp; exact List.mem_cons_self; exact List.mem_cons_of_mem _ (List.mem_append_left _ hp)), List.pairwise_cons.2 ⟨fun q hq => hd.1 q (List.mem_append_left _ hq), h.d⟩, S.p⟩
theorem St.sorted {w0 w w' : World} {g : Nat} {t : TypeId} {vs vs' : List Value} {bs : List Bx} {ps : List (World → Prop)} (S : St w0 w ((g, t, vs) :: bs) ps) (hO : Own w' g t vs') (hs : Same32 w w') (ht : Turn [g] w w') : St w0 w' ((g, t, vs') :: bs) ps := by
 have hlo := S.lo _ List.mem_cons_self
 have hd := List.pairwise_cons.1 S.d
 refine ⟨?_, ⟨hO, Bxs.map (fun p hp ho => ho.turn ht (by simp only [List.mem_singleton]; exact fun e => hd.1 p hp e.symm)) S.b.2⟩, ?_, List.pairwise_cons.2 ⟨hd.1, hd.2⟩, S.p.map hs⟩
 ·exact ((Turn.of_keeps (T := []) S.k).trans (T' := [g]) ht (fun b hb hlt => by simp only [List.mem_singleton] at hb; subst hb; simp only at hlo; omega)).keeps (fun b hb => by cases hb)
 ·intro p hp
  rcases List.mem_cons.1 hp with rfl | hp
  ·exact hlo
  ·exact S.lo p (List.mem_cons_of_mem _ hp)
theorem srtQ_map : ∀ (k : Nat) (l : List Rn), k ≤ l.length → (srtQ k l).map Rn.q = srtR k (l.map Rn.q) := by
 have hb : ∀ (j : Nat) (l : List Rn), j < l.length ∨ j = 0 → (bubQ j l).map Rn.q = bubR j (l.map Rn.q) := by
  intro j
  induction j with
  | zero => intro l _; rfl
  | succ j ih =>
   intro l hj
   have hj : j + 1 < l.length := by omega
   have e1 : (l.map Rn.q).getD j 0 = (l.getD j rz0).q := by simp [List.getD, List.getElem?_eq_getElem (show j < l.length by omega)]
   have e2 : (l.map Rn.q).getD (j + 1) 0 = (l.getD (j + 1) rz0).q := by simp [List.getD, List.getElem?_eq_getElem hj]
   rw [bubQ, bubR, e1, e2]
   split
   ·rw [ih _ (by rw [List.length_set, List.length_set]; omega), List.map_set, List.map_set]
   ·rfl
 intro k
 induction k with
 | zero => intro l _; rfl
 | succ k ih =>
  intro l hk
  rw [srtQ, srtR, hb k _ (by rw [srtQ_length]; omega), ih l (by omega)]
theorem srtQ_mem : ∀ (k : Nat) (l : List Rn), k ≤ l.length → ∀ x ∈ srtQ k l, x ∈ l := by
 have hb : ∀ (j : Nat) (l : List Rn), j < l.length ∨ j = 0 → ∀ x ∈ bubQ j l, x ∈ l := by
  intro j
  induction j with
  | zero => intro l _ x h; exact h
  | succ j ih =>
   intro l hj x hx
   have hj : j + 1 < l.length := by omega
   rw [bubQ] at hx
   split at hx
   ·have := ih _ (by rw [List.length_set, List.length_set]; omega) x hx
    rcases List.mem_or_eq_of_mem_set this with h | rfl
    ·rcases List.mem_or_eq_of_mem_set h with h | rfl
     ·exact h
     ·exact getD_mem (by omega)
    ·exact getD_mem hj
   ·exact hx
 intro k
 induction k with
 | zero => intro l _ x h; exact h
 | succ k ih =>
  intro l hk x hx
  rw [srtQ] at hx
  exact ih l (by omega) x (hb k _ (by rw [srtQ_length]; omega) x hx)
set_option maxRecDepth 100000 in
set_option maxHeartbeats 10000000 in
theorem vtriangle_num {w : World} {V1 V2 V3 : Value} {x y z : Rat} (h1 : RatNum w V1 x) (h2 : RatNum w V2 y) (h3 : RatNum w V3 z) (zx : szR x ≤ 8) (zy : szR y ≤ 8) (zz : szR z ≤ 8) :
 Calls Tryz.prog 77 #[V1, V2, V3] w (TriG (upV x y z) (dnV x y z) w) := by
 obtain ⟨sx, Ax, nx, cx, tx, Bx, mx, ex, rfl⟩ := h1.open_
 obtain ⟨sy, Ay, ny, cy, ty, By, my, ey, rfl⟩ := h2.open_
 obtain ⟨sz, Az, nz, cz, tz, Bz, mz, ez, rfl⟩ := h3.open_
 have S := (((((((St.start w).addR h1).addR h2).addR h3).alloc 35 [.bool sx, .slice Ax nx cx, .bool tx, .slice Bx mx ex]).alloc 35 [.bool sy, .slice Ay ny cy, .bool ty, .slice By my ey]).alloc 35 [.bool sz, .slice Az nz cz, .bool tz, .slice Bz mz ez]).alloc 35 [.bool false, .slice none 0 0, .bool false, .slice none 0 0]
 replace S := S.alloc 35 [.bool false, .slice none 0 0, .bool false, .slice none 0 0]
 simp only [World.size_alloc] at S
 obtain ⟨W5, hW5, S⟩ := S.pack
 have ZX := Lib.hid zx
 have ZY := Lib.hid zy
 have ZZ := Lib.hid zz
 clear h1 h2 h3 zx zy zz
 go_enter Tryz.func77, Tryz.ntmps77
 go_upto_region 1 with fail
 clear hW5
 refine wp_region_steps (m := 7) rfl (by kernel_rfl) (vt1Φ x y z (.agg #[.bool sx, .slice Ax nx cx, .bool tx, .slice Bx mx ex]) (.agg #[.bool sy, .slice Ay ny cy, .bool ty, .slice By my ey]) (.agg #[.bool sz, .slice Az nz cz, .bool tz, .slice Bz mz ez]) W5.heap.size) [] ?_ ?_ ?_
 ·intro i v w w' hi h hk
  match i, hi with
  | 0, _ | 2, _ | 4, _ => exact h
  | 1, _ => exact RatRep.below h hk
  | 3, _ => exact RatRep.below h hk
  | 5, _ => exact RatRep.below h hk
  | 6, _ => exact h.elim fun b ⟨e0, e1, e2, h1, h2, h3, h4⟩ => ⟨b, e0, e1, e2, h1, h2, h3.below hk, h4⟩
  | i + 7, hi => exact absurd hi (by omega)
 ·intro i hi vs wph3 hk3 hd
  have S3 := S.drew.below hk3
  obtain ⟨a0, a1, a2, a3⟩ := S3.cc4 4 rfl
  obtain ⟨b0, b1, b2, b3⟩ := S3.cc4 3 rfl
  obtain ⟨c0, c1, c2, c3⟩ := S3.cc4 2 rfl
  match i, hi with
  | 0, _ =>
   refine step_yes [] rfl (by kernel_rfl) fun K hK => ?_
   simp only [frD] at hK ⊢
   refine ⟨by rfl, ?_⟩
   go_simp
   exact hK _ _ ⟨Below.refl _ _, rfl, by simp⟩
  | 1, _ =>
   have e0 : vs 0 = (.agg #[.bool sx, .slice Ax nx cx, .bool tx, .slice Bx mx ex]) := hd 0 (List.contains_iff_mem.1 (by kernel_rfl))
   refine step_yes [(0, some 15)] rfl (by kernel_rfl) fun K hK => ?_
   simp only [frD, e0] at hK ⊢
   refine ⟨by rfl, ?_⟩
   go_simp
   refine (fvalue_num (S3.ri 2 rfl)).mono ?_
   rintro e wph4 ⟨U, rfl, hr, hk4⟩
   exact hK _ _ ⟨hk4, hr, by simp⟩
  | 2, _ =>
   refine step_yes [] rfl (by kernel_rfl) fun K hK => ?_
   simp only [frD] at hK ⊢
   refine ⟨by rfl, ?_⟩
   go_simp
   exact hK _ _ ⟨Below.refl _ _, rfl, by simp⟩
  | 3, _ =>
   have h1 : RatRep wph3 (vs 1) x := hd 1 (List.contains_iff_mem.1 (by kernel_rfl))
   have e2 : vs 2 = (.agg #[.bool sy, .slice Ay ny cy, .bool ty, .slice By my ey]) := hd 2 (List.contains_iff_mem.1 (by kernel_rfl))
   refine step_yes [(1, some 16), (2, some 17)] rfl (by kernel_rfl) fun K hK => ?_
   simp only [frD, e2] at hK ⊢
   refine ⟨by rfl, ?_⟩
   go_simp
   refine (fvalue_num (S3.ri 1 rfl)).mono ?_
   rintro e wph4 ⟨U, rfl, hr, hk4⟩
   exact hK _ _ ⟨hk4, hr, by simp⟩
  | 4, _ =>
   refine step_yes [] rfl (by kernel_rfl) fun K hK => ?_
   simp only [frD] at hK ⊢
   refine ⟨by rfl, ?_⟩
   go_simp
   exact hK _ _ ⟨Below.refl _ _, rfl, by simp⟩
  | 5, _ =>
   have h3 : RatRep wph3 (vs 3) y := hd 3 (List.contains_iff_mem.1 (by kernel_rfl))
   have e4 : vs 4 = (.agg #[.bool sz, .slice Az nz cz, .bool tz, .slice Bz mz ez]) := hd 4 (List.contains_iff_mem.1 (by kernel_rfl))
   refine step_yes [(3, some 18), (4, some 19)] rfl (by kernel_rfl) fun K hK => ?_
   simp only [frD, e4] at hK ⊢
   refine ⟨by rfl, ?_⟩
   go_simp
   refine (fvalue_num (S3.ri 0 rfl)).mono ?_
   rintro e wph4 ⟨U, rfl, hr, hk4⟩
   exact hK _ _ ⟨hk4, hr, by simp⟩
  | 6, _ =>
   have h1 : RatRep wph3 (vs 1) x := hd 1 (List.contains_iff_mem.1 (by kernel_rfl))
   have h3 : RatRep wph3 (vs 3) y := hd 3 (List.contains_iff_mem.1 (by kernel_rfl))
   have h5 : RatRep wph3 (vs 5) z := hd 5 (List.contains_iff_mem.1 (by kernel_rfl))
   obtain ⟨q1, q2, q3, q4, q5, q6, q7, q8, qq⟩ := h1.open_
   obtain ⟨r1, r2, r3, r4, r5, r6, r7, r8, rr⟩ := h3.open_
   obtain ⟨u1, u2, u3, u4, u5, u6, u7, u8, uu⟩ := h5.open_
   rw [qq] at h1
   rw [rr] at h3
   rw [uu] at h5
   refine step_yes [(1, some 16), (3, some 18), (5, some 20)] rfl (by kernel_rfl) fun K hK => ?_
   simp only [frD, qq, rr, uu] at hK ⊢
   refine ⟨by rfl, ?_⟩
   go_simp
   exact hK _ _ ⟨bl.alloc (Nat.le_refl _) _, ⟨_, ⟨x, q1, q2, q3, q4, q5, q6, q7, q8⟩, ⟨y, r1, r2, r3, r4, r5, r6, r7, r8⟩, ⟨z, u1, u2, u3, u4, u5, u6, u7, u8⟩, rfl, hk3.size, row3 h1 h3 h5 ZX.out ZY.out ZZ.out, rfl, rfl, rfl⟩, by simp⟩
  | i + 7, hi => exact absurd hi (by omega)
 ·intro vs wph3 hk3 hΦ _
  simp only [List.drop_succ_cons, List.drop_zero]
  rw [fr_frD, show (List.range 7).map _ = [(0, some 15), (1, some 16), (2, some 17), (3, some 18), (4, some 19), (5, some 20), (6, some 21)] by kernel_rfl]
  have ph0 := hΦ 0 (by omega)
  have ph1 := hΦ 1 (by omega)
  have ph2 := hΦ 2 (by omega)
  have ph3 := hΦ 3 (by omega)
  have ph4 := hΦ 4 (by omega)
  have ph5 := hΦ 5 (by omega)
  have ph6 := hΦ 6 (by omega)
  simp only [vt1Φ] at ph0 ph1 ph2 ph3 ph4 ph5 ph6
  clear hΦ
  simp only [frD, ph0, ph2, ph4]
  simp only [Act.put, List.setIfInBounds_toArray, List.set_cons_zero, List.set_cons_succ]
  clear ph0
  generalize vs 1 = U1 at ph1 ⊢
  clear ph2
  generalize vs 3 = U3 at ph3 ⊢
  clear ph4
  generalize vs 5 = U5 at ph5 ⊢
  generalize vs 6 = U6 at ph6 ⊢
  obtain ⟨g, r0, r1, r2, rfl, hBg, hrow, hq0, hq1, hq2⟩ := ph6
  have HS3 := Lib.hid (sortF_3 (c := 3) hrow rfl)
  replace S := S.drew.box (S.drew.below hk3) hrow.o hBg
  have hlen := srtQ_length 3 [r0, r1, r2]
  have hmap := srtQ_map 3 [r0, r1, r2] (Nat.le_refl _)
  have hmem := srtQ_mem 3 [r0, r1, r2] (Nat.le_refl _)
  simp only [List.map_cons, List.map_nil, hq0, hq1, hq2] at hmap
  have hsz : ∀ f ∈ [r0, r1, r2], szR f.q ≤ 8 := fun f hf => by
   simp only [List.mem_cons, List.not_mem_nil, or_false] at hf
   rcases hf with rfl | rfl | rfl
   ·rw [hq0]; exact ZX.out
   ·rw [hq1]; exact ZY.out
   ·rw [hq2]; exact ZZ.out
  obtain ⟨f0, f1, f2, hf⟩ : ∃ f0 f1 f2, srtQ 3 [r0, r1, r2] = [f0, f1, f2] := by
   match h : srtQ 3 [r0, r1, r2], hlen with
   | [a, b, c], _ => exact ⟨a, b, c, rfl⟩
  rw [hf] at hmap hmem HS3
  have z0 := hsz _ (hmem f0 (by simp))
  have z1 := hsz _ (hmem f1 (by simp))
  have z2 := hsz _ (hmem f2 (by simp))
  simp only [List.map_cons, List.map_nil] at hmap
  obtain ⟨l0, v0, A0, n0, c0, u0, B0, m0, e0⟩ := f0
  obtain ⟨l1, v1, A1, n1, c1, u1, B1, m1, e1⟩ := f1
  obtain ⟨l2, v2, A2, n2, c2, u2, B2, m2, e2⟩ := f2
  have hup : upV x y z = upT l0 l1 l2 := by unfold upV; rw [← hmap]; rfl
  have hdn : dnV x y z = dnT l0 l1 l2 := by unfold dnV; rw [← hmap]; rfl
  have HUP := Lib.hid hup
  have HDN := Lib.hid hdn
  replace z0 : szR l0 ≤ 8 := z0
  replace z1 : szR l1 ≤ 8 := z1
  replace z2 : szR l2 ≤ 8 := z2
  have ZL0 := Lib.hid z0
  have ZL1 := Lib.hid z1
  have ZL2 := Lib.hid z2
  clear hup hdn hmap hmem hsz hlen hf hrow hq0 hq1 hq2 hBg hk3 z0 z1 z2
  go_wp2_with fail
  refine HS3.out.mono ?_
  rintro e W9 ⟨rfl, hr9, hs9, ht9⟩
  replace S := S.sorted hr9.o hs9 ht9
  have n0' : RatNum W9 (.agg #[.bool v0, .slice A0 n0 c0, .bool u0, .slice B0 m0 e0]) l0 := hr9.n ⟨l0, v0, A0, n0, c0, u0, B0, m0, e0⟩ (by simp)
  have n1' : RatNum W9 (.agg #[.bool v1, .slice A1 n1 c1, .bool u1, .slice B1 m1 e1]) l1 := hr9.n ⟨l1, v1, A1, n1, c1, u1, B1, m1, e1⟩ (by simp)
  have n2' : RatNum W9 (.agg #[.bool v2, .slice A2 n2 c2, .bool u2, .slice B2 m2 e2]) l2 := hr9.n ⟨l2, v2, A2, n2, c2, u2, B2, m2, e2⟩ (by simp)
  replace S := ((S.onlyL.addR n2').addR n1').addR n0'
  replace S : St w W9 [(g, 35, [.bool v0, .slice A0 n0 c0, .bool u0, .slice B0 m0 e0, .bool v1, .slice A1 n1 c1, .bool u1, .slice B1 m1 e1, .bool v2, .slice A2 n2 c2, .bool u2, .slice B2 m2 e2]),
   (w.heap.size + 1 + 1 + 1 + 1, 35, [.bool false, .slice none 0 0, .bool false, .slice none 0 0]), (w.heap.size + 1 + 1 + 1, 35, [.bool false, .slice none 0 0, .bool false, .slice none 0 0])] _ :=
   St.take (cs := [_, _, _]) S
  clear HS3 hr9 hs9 ht9 n0' n1' n2'
  generalize w.heap.size + 1 + 1 + 1 = P6 at *
  have zq : szR (Rat.divInt 1 3) ≤ 1 := by decide +kernel
  have zw : szR ((0 : Int) : Rat) ≤ 1 := by decide +kernel
  have z0 := ZL0.out
  have z1 := ZL1.out
  have z2 := ZL2.out
  have zq : szR (Rat.divInt 1 3) ≤ 1 := by decide +kernel
  have zw : szR ((0 : Int) : Rat) ≤ 1 := by decide +kernel
  have z0 := ZL0.out
  have z1 := ZL1.out
  have z2 := ZL2.out
  have y0 := szR_sum3 l0 l1 l2
  have y1 := szR_mul (Rat.divInt 1 3) (l0 + l1 + l2)
  have y2 := szR_int 0
  have y3 := Nat.le_of_eq (szR_neg ((Rat.divInt 1 3) * (l0 + l1 + l2)))
  have y4 := szR_pk l2 l0 l1
  have y5 := szR_sub (l2 * (l2 * l2) / (3 * ((l2 - l0) * (l2 - l1)))) ((Rat.divInt 1 3) * (l0 + l1 + l2))
  have y6 := Nat.le_of_eq (szR_neg l0)
  have y7 := Nat.le_of_eq (szR_neg l1)
  have y8 := Nat.le_of_eq (szR_neg l2)
  have y9 := szR_pk (-l0) (-l1) (-l2)
  obtain ⟨s1, hs1⟩ : ∃ s, l0.num.sign = s := ⟨_, rfl⟩
  obtain ⟨s2, hs2⟩ : ∃ s, l2.num.sign = s := ⟨_, rfl⟩
  obtain ⟨s3, hs3⟩ : ∃ s, l1.num.sign = s := ⟨_, rfl⟩
  have HS1 := Lib.hid hs1
  clear hs1
  have HS2 := Lib.hid hs2
  clear hs2
  have HS3 := Lib.hid hs3
  clear hs3
  go_wp2_with fail
  refine ((rcode_eq (c' := 0) (fof_num 1 3 (by omega) (by omega) (by omega) (by omega)) (by decide) rfl)).mono ?_
  rintro e W31 ⟨U31, rfl, hp, hk⟩
  rw [if_pos rfl] at hp
  obtain ⟨b33, A33, n33, c33, d33, B33, m33, e33, rfl⟩ := hp.open_
  replace S := (S.below hk).addQ hp
  clear hk hp
  go_upto_region 4 with fail
  replace S := (S.alloc 35 [.bool b33, .slice A33 n33 c33, .bool d33, .slice B33 m33 e33])
  obtain ⟨W32, eW, S⟩ := S.pack
  rw [eW]
  clear eW
  generalize W31.heap.size = P31 at *
  refine wp_region_steps (m := 5) rfl (by kernel_rfl) (fun iF vF wF => (List.getD [ve (.agg #[.bool b33, .slice A33 n33 c33, .bool d33, .slice B33 m33 e33]), ve (.slice (some ⟨g, 0, none⟩) 3 3), fun vF wF => RatRep wF vF (l0 + l1 + l2), fun vF wF => RatRep wF vF ((Rat.divInt 1 3) * (l0 + l1 + l2)), fun vF wF => ∃ b, vF = .pointer (some ⟨b, 0, none⟩) ∧ W32.heap.size ≤ b ∧ Own wF b 35 [.bool false, .slice none 0 0, .bool false, .slice none 0 0]] iF (fun _ _ => True)) vF wF) [4] ?_ ?_ ?_
  ·intro i v w w' _ h hk
   refine stabL_get ?_ i v w w' h hk
   exact stab_cons st_e (stab_cons st_e (stab_cons st_q (stab_cons st_q (stab_cons st_a stab_nil))))
  ·intro i hi vs w3 hk3 hd
   have S3 := S.drew.below hk3
   obtain ⟨a0, a1, a2, a3⟩ := S3.cc4 0 rfl
   match i, hi with
   | 0, _ =>
    refine sv0 [] (ve (.agg #[.bool b33, .slice A33 n33 c33, .bool d33, .slice B33 m33 e33])) rfl fun K hK => ?_; clear hd; simp only [frD] at hK ⊢; go_simp
    exact hK _ _ bl rfl
   | 1, _ =>
    refine sv0 [] (ve (.slice (some ⟨g, 0, none⟩) 3 3)) rfl fun K hK => ?_; clear hd; simp only [frD] at hK ⊢; go_simp
    exact hK _ _ bl rfl
   | 2, _ =>
    have qe1 : (vs 1) = .slice (some ⟨g, 0, none⟩) 3 3 := hdk hd 1
    refine sc (A := #[(vs 1)]) (B := #[.slice (some ⟨g, 0, none⟩) 3 3]) [(1, some 29)] (fun vF wF => RatRep wF vF (l0 + l1 + l2)) rfl (wanted_none rfl) (by rw [qe1]) Tryz.func108 ?_
    refine ((sum3 (S3.o 1 rfl) (S3.ri 1 rfl) (S3.ri 2 rfl) (S3.ri 3 rfl) ZL0.out ZL1.out ZL2.out)).mono ?_; rintro e w4 ⟨U, rfl, hr, hk4⟩; exact ⟨_, rfl, hk4, hr⟩
   | 3, _ =>
    have qe0 : (vs 0) = .agg #[.bool b33, .slice A33 n33 c33, .bool d33, .slice B33 m33 e33] := hdk hd 0; have h2 : RatRep w3 (vs 2) (l0 + l1 + l2) := hdk hd 2
    refine sc (A := #[(vs 0), (vs 2)]) (B := #[.agg #[.bool b33, .slice A33 n33 c33, .bool d33, .slice B33 m33 e33], (vs 2)]) [(0, some 28), (2, some 30)] (fun vF wF => RatRep wF vF ((Rat.divInt 1 3) * (l0 + l1 + l2))) rfl (wanted_none rfl) (by rw [qe0]) Tryz.func32 ?_
    refine ((fmul_num ((S3.qi 0 rfl).num (by omega)) (h2.num (by omega)))).mono ?_; rintro e w4 ⟨U, rfl, hr, hk4⟩; exact ⟨_, rfl, hk4, hr⟩
   | 4, _ =>
    refine step_yes [] rfl (by kernel_rfl) fun K hK => ?_; simp only [frD] at hK ⊢; refine ⟨by rfl, ?_⟩; go_simp
    exact hK _ _ ⟨bl.alloc (Nat.le_refl _) _, ⟨_, rfl, hk3.size, Own.new w3 _ _⟩, fun _ => ⟨rfl, by simp⟩⟩
   | i + 5, hi => exact absurd hi (by omega)
  ·intro vs W33 hk3 hΦ _
   simp only [List.drop_succ_cons, List.drop_zero]
   rw [fr_frD, show (List.range 5).map _ = [(0, some 28), (1, some 29), (2, some 30), (3, some 31), (4, some 11)] by kernel_rfl]
   have pf0 : (vs 0) = .agg #[.bool b33, .slice A33 n33 c33, .bool d33, .slice B33 m33 e33] := hΦ 0 (by decide)
   have pf1 : (vs 1) = .slice (some ⟨g, 0, none⟩) 3 3 := hΦ 1 (by decide)
   have pf2 : RatRep W33 (vs 2) (l0 + l1 + l2) := hΦ 2 (by decide)
   have pf3 : RatRep W33 (vs 3) ((Rat.divInt 1 3) * (l0 + l1 + l2)) := hΦ 3 (by decide)
   have pf4 : ∃ b, (vs 4) = .pointer (some ⟨b, 0, none⟩) ∧ W32.heap.size ≤ b ∧ Own W33 b 35 [.bool false, .slice none 0 0, .bool false, .slice none 0 0] := hΦ 4 (by decide)
   clear hΦ
   obtain ⟨bpf4, qA4, hlA4, hOA4⟩ := pf4
   simp only [frD, pf0, pf1, qA4]
   simp only [Act.put, List.setIfInBounds_toArray, List.set_cons_zero, List.set_cons_succ]
   clear pf0 pf1
   generalize vs 2 = Upf2 at pf2 ⊢
   generalize vs 3 = Upf3 at pf3 ⊢
   replace S := S.drew.box (S.drew.below hk3) hOA4 hlA4
   clear qA4 hlA4 hOA4
   clear pf2
   obtain ⟨b34, A34, n34, c34, d34, B34, m34, e34, rfl⟩ := pf3.open_
   replace S := S.addQ pf3
   clear pf3
   clear hk3
   have r4_0 := S.c 0 0 rfl rfl
   have f4_0 := S.f 0 0 rfl
   have r4_1 := S.c 0 1 rfl rfl
   have f4_1 := S.f 0 1 rfl
   have r4_2 := S.c 0 2 rfl rfl
   have f4_2 := S.f 0 2 rfl
   have r4_3 := S.c 0 3 rfl rfl
   have f4_3 := S.f 0 3 rfl
   go_wp2_with fail
   replace S := (S.put4 0 rfl rfl rfl (x' := .bool b34) (y' := .slice A34 n34 c34) (z' := .bool d34) (u' := .slice B34 m34 e34))
   obtain ⟨W34, eW, S⟩ := S.pack
   rw [eW]
   clear eW
   refine ((whole_num 0 (by omega) (by omega))).mono ?_
   rintro e W35 ⟨U35, rfl, hp, hk⟩
   obtain ⟨b35, A35, n35, c35, d35, B35, m35, e35, rfl⟩ := hp.open_
   replace S := (S.below hk).addQ hp
   clear hk hp
   clear r4_0 f4_0 r4_1 f4_1 r4_2 f4_2 r4_3 f4_3
   go_upto_region 6 with fail
   replace S := (S.alloc 35 [.bool b35, .slice A35 n35 c35, .bool d35, .slice B35 m35 e35])
   obtain ⟨W36, eW, S⟩ := S.pack
   rw [eW]
   clear eW
   generalize W35.heap.size = P32 at *
   have r2_0 := S.c 3 0 rfl rfl
   have r2_1 := S.c 3 1 rfl rfl
   have r2_2 := S.c 3 2 rfl rfl
   have r2_3 := S.c 3 3 rfl rfl
   have r2_4 := S.c 3 4 rfl rfl
   have r2_5 := S.c 3 5 rfl rfl
   have r2_6 := S.c 3 6 rfl rfl
   have r2_7 := S.c 3 7 rfl rfl
   have r2_8 := S.c 3 8 rfl rfl
   have r2_9 := S.c 3 9 rfl rfl
   have r2_10 := S.c 3 10 rfl rfl
   have r2_11 := S.c 3 11 rfl rfl
   go_wp2_with fail
   refine ((fsign_s (S.ri 3 rfl) HS1.out)).mono ?_
   rintro e W37 ⟨rfl, hk⟩
   replace S := S.below hk
   clear hk
   clear r2_0 r2_1 r2_2 r2_3 r2_4 r2_5 r2_6 r2_7 r2_8 r2_9 r2_10 r2_11
   rcases Bool.eq_false_or_eq_true (decide (0 ≤ s1)) with t1 | t1
   ·skip
    go_upto_region 7 with fail
    obtain ⟨W38, eX0, T0⟩ := S.drew.pack
    have r90_0 := T0.c 5 0 rfl rfl
    have f90_0 := T0.f 5 0 rfl
    have r90_1 := T0.c 5 1 rfl rfl
    have f90_1 := T0.f 5 1 rfl
    have r90_2 := T0.c 5 2 rfl rfl
    have f90_2 := T0.f 5 2 rfl
    have r90_3 := T0.c 5 3 rfl rfl
    have f90_3 := T0.f 5 3 rfl
    obtain ⟨W39, eX1, T1⟩ := (T0.put4 5 rfl rfl rfl (x' := .bool b34) (y' := .slice A34 n34 c34) (z' := .bool d34) (u' := .slice B34 m34 e34)).pack
    have r91_0 := T1.c 4 0 rfl rfl
    have f91_0 := T1.f 4 0 rfl
    have r91_1 := T1.c 4 1 rfl rfl
    have f91_1 := T1.f 4 1 rfl
    have r91_2 := T1.c 4 2 rfl rfl
    have f91_2 := T1.f 4 2 rfl
    have r91_3 := T1.c 4 3 rfl rfl
    have f91_3 := T1.f 4 3 rfl
    obtain ⟨W40, eX2, T2⟩ := (T1.put4 4 rfl rfl rfl (x' := .bool b35) (y' := .slice A35 n35 c35) (z' := .bool d35) (u' := .slice B35 m35 e35)).pack
    have C4_0 := Lib.hid (fun p => two_all (p := p) (a := 2) (b := 3) (X := fun w' => w'.cell? ⟨bpf4, 0, none⟩ = some (.bool b34)) (T0.c 1 0 rfl rfl) (T1.c 1 0 rfl rfl) (T2.c 1 0 rfl rfl))
    have C4_1 := Lib.hid (fun p => two_all (p := p) (a := 2) (b := 3) (X := fun w' => w'.cell? ⟨bpf4, 1, none⟩ = some (.slice A34 n34 c34)) (T0.c 1 1 rfl rfl) (T1.c 1 1 rfl rfl) (T2.c 1 1 rfl rfl))
    have C4_2 := Lib.hid (fun p => two_all (p := p) (a := 2) (b := 3) (X := fun w' => w'.cell? ⟨bpf4, 2, none⟩ = some (.bool d34)) (T0.c 1 2 rfl rfl) (T1.c 1 2 rfl rfl) (T2.c 1 2 rfl rfl))
    have C4_3 := Lib.hid (fun p => two_all (p := p) (a := 2) (b := 3) (X := fun w' => w'.cell? ⟨bpf4, 3, none⟩ = some (.slice B34 m34 e34)) (T0.c 1 3 rfl rfl) (T1.c 1 3 rfl rfl) (T2.c 1 3 rfl rfl))
    have C5_0 := Lib.hid (fun p => two_all (p := p) (a := 2) (b := 3) (X := fun w' => w'.cell? ⟨P32, 0, none⟩ = some (.bool b35)) (T0.c 0 0 rfl rfl) (T1.c 0 0 rfl rfl) (T2.c 0 0 rfl rfl))
    have C5_1 := Lib.hid (fun p => two_all (p := p) (a := 2) (b := 3) (X := fun w' => w'.cell? ⟨P32, 1, none⟩ = some (.slice A35 n35 c35)) (T0.c 0 1 rfl rfl) (T1.c 0 1 rfl rfl) (T2.c 0 1 rfl rfl))
    have C5_2 := Lib.hid (fun p => two_all (p := p) (a := 2) (b := 3) (X := fun w' => w'.cell? ⟨P32, 2, none⟩ = some (.bool d35)) (T0.c 0 2 rfl rfl) (T1.c 0 2 rfl rfl) (T2.c 0 2 rfl rfl))
    have C5_3 := Lib.hid (fun p => two_all (p := p) (a := 2) (b := 3) (X := fun w' => w'.cell? ⟨P32, 3, none⟩ = some (.slice B35 m35 e35)) (T0.c 0 3 rfl rfl) (T1.c 0 3 rfl rfl) (T2.c 0 3 rfl rfl))
    refine wp_region_det rfl (by kernel_rfl) (fun iF => List.getD [.agg #[.bool b34, .slice A34 n34 c34, .bool d34, .slice B34 m34 e34], .agg #[.bool b35, .slice A35 n35 c35, .bool d35, .slice B35 m35 e35], undef, undef] iF undef) (two W38 W39 W40 2 3) eX0.symm (two_cong (by decide) (by decide)) ?_ ?_
    ·intro i hi
     have hi' : i < 4 := hi
     match i, hi' with
     | 0, _ =>
      refine stepDet_at [] (some 39) rfl (by kernel_rfl) rfl (by kernel_rfl) fun p h1 h2 h3 K hK => ?_
      rw [two_other (by decide) (by decide)] at hK
      have c4_0 := C4_0.out p; have c4_1 := C4_1.out p; have c4_2 := C4_2.out p; have c4_3 := C4_3.out p; have c5_0 := C5_0.out p; have c5_1 := C5_1.out p; have c5_2 := C5_2.out p; have c5_3 := C5_3.out p
      simp only [frD, gz, Act.put, List.setIfInBounds_toArray, List.set_cons_zero, List.set_cons_succ] at hK ⊢
      clear h2 h3
      go_simp
      with_reducible exact hK
     | 1, _ =>
      refine stepDet_at [] (some 40) rfl (by kernel_rfl) rfl (by kernel_rfl) fun p h1 h2 h3 K hK => ?_
      rw [two_other (by decide) (by decide)] at hK
      have c4_0 := C4_0.out p; have c4_1 := C4_1.out p; have c4_2 := C4_2.out p; have c4_3 := C4_3.out p; have c5_0 := C5_0.out p; have c5_1 := C5_1.out p; have c5_2 := C5_2.out p; have c5_3 := C5_3.out p
      simp only [frD, gz, gs, Act.put, List.setIfInBounds_toArray, List.set_cons_zero, List.set_cons_succ] at hK ⊢
      clear h2 h3
      go_simp
      with_reducible exact hK
     | 2, _ =>
      refine stepDet_at [(0, some 39)] (none) rfl (by kernel_rfl) rfl (by kernel_rfl) fun p h1 h2 h3 K hK => ?_
      have pb : p 3 = false := by
       cases hc : p 3 with
       | false => rfl
       | true => exact absurd (h3 3 2 hc (List.contains_iff_mem.1 (by kernel_rfl))) (by simp [h1])
      have x := two_a (w0 := W38) (w1 := W39) (w2 := W40) (a := 2) (b := 3) (by decide) h1 pb
      rw [x.1]
      rw [x.2] at hK
      clear x
      simp only [frD, gz, Act.put, List.setIfInBounds_toArray, List.set_cons_zero, List.set_cons_succ] at hK ⊢
      clear h2 h3
      go_simp
      with_reducible exact hK
     | 3, _ =>
      refine stepDet_at [(0, some 39), (1, some 40), (2, none)] (none) rfl (by kernel_rfl) rfl (by kernel_rfl) fun p h1 h2 h3 K hK => ?_
      have pa : p 2 = true := h2 2 (List.contains_iff_mem.1 (by kernel_rfl))
      have x := two_b (w0 := W38) (w1 := W39) (w2 := W40) (a := 2) (b := 3) pa h1
      rw [x.1]
      rw [x.2] at hK
      clear x
      simp only [frD, gz, gs, Act.put, List.setIfInBounds_toArray, List.set_cons_zero, List.set_cons_succ] at hK ⊢
      clear h2 h3
      go_simp
      with_reducible exact hK
    ·rw [show two W38 W39 W40 2 3 (fun _ => true) = W40 from rfl, fr_frD, show (List.range _).map _ = [(0, some 39), (1, some 40), (2, none), (3, none)] by kernel_rfl]
     simp only [frD, gz, gs, Act.put, List.setIfInBounds_toArray, List.set_cons_zero, List.set_cons_succ]
     clear S eX0 eX1 eX2 T0 T1 r90_0 f90_0 r90_1 f90_1 r90_2 f90_2 r90_3 f90_3 r91_0 f91_0 r91_1 f91_1 r91_2 f91_2 r91_3 f91_3
     clear C4_0
     clear C4_1
     clear C4_2
     clear C4_3
     clear C5_0
     clear C5_1
     clear C5_2
     clear C5_3
     have S := T2
     clear T2
     obtain ⟨r0_0, r0_1, r0_2, r0_3⟩ := S.cc4 5 rfl
     obtain ⟨r1_0, r1_1, r1_2, r1_3⟩ := S.cc4 4 rfl
     go_wp2
     refine bodyPost_ret (v := .tuple #[.agg #[.bool b34, .slice A34 n34 c34, .bool d34, .slice B34 m34 e34], .agg #[.bool b35, .slice A35 n35 c35, .bool d35, .slice B35 m35 e35]]) (by simp [results, Tryz.results77, go_sem, S.c 5 0 rfl rfl, S.c 5 1 rfl rfl, S.c 5 2 rfl rfl, S.c 5 3 rfl rfl, S.c 4 0 rfl rfl, S.c 4 1 rfl rfl, S.c 4 2 rfl rfl, S.c 4 3 rfl rfl]) rfl ?_
     exact ⟨_, _, _, _, rfl, S.qi 1 rfl, S.qi 0 rfl, by rw [HUP.out, HDN.out]; exact upA HS1.out t1, S.k⟩
   ·skip
    have r2_0 := S.c 3 0 rfl rfl
    have r2_1 := S.c 3 1 rfl rfl
    have r2_2 := S.c 3 2 rfl rfl
    have r2_3 := S.c 3 3 rfl rfl
    have r2_4 := S.c 3 4 rfl rfl
    have r2_5 := S.c 3 5 rfl rfl
    have r2_6 := S.c 3 6 rfl rfl
    have r2_7 := S.c 3 7 rfl rfl
    have r2_8 := S.c 3 8 rfl rfl
    have r2_9 := S.c 3 9 rfl rfl
    have r2_10 := S.c 3 10 rfl rfl
    have r2_11 := S.c 3 11 rfl rfl
    go_wp2_with fail
    refine ((fsign_s (S.ri 5 rfl) HS2.out)).mono ?_
    rintro e W38 ⟨rfl, hk⟩
    replace S := S.below hk
    clear hk
    clear r2_0 r2_1 r2_2 r2_3 r2_4 r2_5 r2_6 r2_7 r2_8 r2_9 r2_10 r2_11
    rcases Bool.eq_false_or_eq_true (decide (s2 ≤ 0)) with t2 | t2
    ·skip
     go_upto_region 9 with fail
     refine wp_region_steps (m := 3) rfl (by kernel_rfl) (fun iF vF wF => (List.getD [ve (.agg #[.bool b35, .slice A35 n35 c35, .bool d35, .slice B35 m35 e35]), ve (.agg #[.bool b34, .slice A34 n34 c34, .bool d34, .slice B34 m34 e34]), fun vF wF => RatRep wF vF (-((Rat.divInt 1 3) * (l0 + l1 + l2)))] iF (fun _ _ => True)) vF wF) [] ?_ ?_ ?_
     ·intro i v w w' _ h hk
      refine stabL_get ?_ i v w w' h hk
      exact stab_cons st_e (stab_cons st_e (stab_cons st_q stab_nil))
     ·intro i hi vs w3 hk3 hd
      have S3 := S.drew.below hk3
      obtain ⟨a0, a1, a2, a3⟩ := S3.cc4 1 rfl
      obtain ⟨a4, a5, a6, a7⟩ := S3.cc4 0 rfl
      match i, hi with
      | 0, _ =>
       refine sv0 [] (ve (.agg #[.bool b35, .slice A35 n35 c35, .bool d35, .slice B35 m35 e35])) rfl fun K hK => ?_; clear hd; simp only [frD] at hK ⊢; go_simp
       exact hK _ _ bl rfl
      | 1, _ =>
       refine sv0 [] (ve (.agg #[.bool b34, .slice A34 n34 c34, .bool d34, .slice B34 m34 e34])) rfl fun K hK => ?_; clear hd; simp only [frD] at hK ⊢; go_simp
       exact hK _ _ bl rfl
      | 2, _ =>
       have qe1 : (vs 1) = .agg #[.bool b34, .slice A34 n34 c34, .bool d34, .slice B34 m34 e34] := hdk hd 1
       refine sc (A := #[(vs 1)]) (B := #[.agg #[.bool b34, .slice A34 n34 c34, .bool d34, .slice B34 m34 e34]]) [(1, some 48)] (fun vF wF => RatRep wF vF (-((Rat.divInt 1 3) * (l0 + l1 + l2)))) rfl (wanted_none rfl) (by rw [qe1]) Tryz.func69 ?_
       refine ((fneg_num ((S3.qi 1 rfl).num (by omega)))).mono ?_; rintro e w4 ⟨U, rfl, hr, hk4⟩; exact ⟨_, rfl, hk4, hr⟩
      | i + 3, hi => exact absurd hi (by omega)
     ·intro vs W39 hk3 hΦ _
      simp only [List.drop_succ_cons, List.drop_zero]
      rw [fr_frD, show (List.range 3).map _ = [(0, some 47), (1, some 48), (2, some 49)] by kernel_rfl]
      have pg0 : (vs 0) = .agg #[.bool b35, .slice A35 n35 c35, .bool d35, .slice B35 m35 e35] := hΦ 0 (by decide)
      have pg1 : (vs 1) = .agg #[.bool b34, .slice A34 n34 c34, .bool d34, .slice B34 m34 e34] := hΦ 1 (by decide)
      have pg2 : RatRep W39 (vs 2) (-((Rat.divInt 1 3) * (l0 + l1 + l2))) := hΦ 2 (by decide)
      clear hΦ
      simp only [frD, pg0, pg1]
      simp only [Act.put, List.setIfInBounds_toArray, List.set_cons_zero, List.set_cons_succ]
      clear pg0 pg1
      generalize vs 2 = Upg2 at pg2 ⊢
      replace S := S.drew.below hk3
      obtain ⟨b36, A36, n36, c36, d36, B36, m36, e36, rfl⟩ := pg2.open_
      replace S := S.addQ pg2
      clear pg2
      clear hk3
      have r0_0 := S.c 5 0 rfl rfl
      have f0_0 := S.f 5 0 rfl
      have r0_1 := S.c 5 1 rfl rfl
      have f0_1 := S.f 5 1 rfl
      have r0_2 := S.c 5 2 rfl rfl
      have f0_2 := S.f 5 2 rfl
      have r0_3 := S.c 5 3 rfl rfl
      have f0_3 := S.f 5 3 rfl
      have r1_0 := S.c 4 0 rfl rfl
      have f1_0 := S.f 4 0 rfl
      have r1_1 := S.c 4 1 rfl rfl
      have f1_1 := S.f 4 1 rfl
      have r1_2 := S.c 4 2 rfl rfl
      have f1_2 := S.f 4 2 rfl
      have r1_3 := S.c 4 3 rfl rfl
      have f1_3 := S.f 4 3 rfl
      go_wp2
      replace S := ((S.put4 5 rfl rfl rfl (x' := .bool b35) (y' := .slice A35 n35 c35) (z' := .bool d35) (u' := .slice B35 m35 e35)).put4 4 rfl rfl rfl (x' := .bool b36) (y' := .slice A36 n36 c36) (z' := .bool d36) (u' := .slice B36 m36 e36))
      refine bodyPost_ret (v := .tuple #[.agg #[.bool b35, .slice A35 n35 c35, .bool d35, .slice B35 m35 e35], .agg #[.bool b36, .slice A36 n36 c36, .bool d36, .slice B36 m36 e36]]) (by simp [results, Tryz.results77, go_sem, S.c 5 0 rfl rfl, S.c 5 1 rfl rfl, S.c 5 2 rfl rfl, S.c 5 3 rfl rfl, S.c 4 0 rfl rfl, S.c 4 1 rfl rfl, S.c 4 2 rfl rfl, S.c 4 3 rfl rfl]) rfl ?_
      exact ⟨_, _, _, _, rfl, S.qi 1 rfl, S.qi 0 rfl, by rw [HUP.out, HDN.out]; exact upB HS1.out HS2.out t1 t2, S.k⟩
    ·skip
     have r2_0 := S.c 3 0 rfl rfl
     have r2_1 := S.c 3 1 rfl rfl
     have r2_2 := S.c 3 2 rfl rfl
     have r2_3 := S.c 3 3 rfl rfl
     have r2_4 := S.c 3 4 rfl rfl
     have r2_5 := S.c 3 5 rfl rfl
     have r2_6 := S.c 3 6 rfl rfl
     have r2_7 := S.c 3 7 rfl rfl
     have r2_8 := S.c 3 8 rfl rfl
     have r2_9 := S.c 3 9 rfl rfl
     have r2_10 := S.c 3 10 rfl rfl
     have r2_11 := S.c 3 11 rfl rfl
     go_wp2_with fail
     refine ((fsign_s (S.ri 4 rfl) HS3.out)).mono ?_
     rintro e W39 ⟨rfl, hk⟩
     replace S := S.below hk
     clear hk
     clear r2_0 r2_1 r2_2 r2_3 r2_4 r2_5 r2_6 r2_7 r2_8 r2_9 r2_10 r2_11
     rcases Bool.eq_false_or_eq_true (decide (s3 ≤ 0)) with t3 | t3
     ·skip
      go_upto_region 11 with fail
      refine wp_region_steps (m := 11) rfl (by kernel_rfl) (fun iF vF wF => (List.getD [ve (.slice (some ⟨g, 0, none⟩) 3 3), ve (.pointer (some ⟨g, 8, none⟩)), ve (.agg #[.bool v2, .slice A2 n2 c2, .bool u2, .slice B2 m2 e2]), ve (.slice (some ⟨g, 0, none⟩) 3 3), ve (.pointer (some ⟨g, 0, none⟩)), ve (.agg #[.bool v0, .slice A0 n0 c0, .bool u0, .slice B0 m0 e0]), ve (.slice (some ⟨g, 0, none⟩) 3 3), ve (.pointer (some ⟨g, 4, none⟩)), ve (.agg #[.bool v1, .slice A1 n1 c1, .bool u1, .slice B1 m1 e1]), fun vF wF => RatRep wF vF (l2 * (l2 * l2) / (3 * ((l2 - l0) * (l2 - l1)))), fun vF wF => ∃ b, vF = .pointer (some ⟨b, 0, none⟩) ∧ W39.heap.size ≤ b ∧ Own wF b 35 [.bool false, .slice none 0 0, .bool false, .slice none 0 0]] iF (fun _ _ => True)) vF wF) [10] ?_ ?_ ?_
      ·intro i v w w' _ h hk
       refine stabL_get ?_ i v w w' h hk
       exact stab_cons st_e (stab_cons st_e (stab_cons st_e (stab_cons st_e (stab_cons st_e (stab_cons st_e (stab_cons st_e (stab_cons st_e (stab_cons st_e (stab_cons st_q (stab_cons st_a stab_nil))))))))))
      ·intro i hi vs w3 hk3 hd
       have S3 := S.drew.below hk3
       have a0 := S3.c 3 0 rfl rfl
       have a1 := S3.c 3 1 rfl rfl
       have a2 := S3.c 3 2 rfl rfl
       have a3 := S3.c 3 3 rfl rfl
       have a4 := S3.c 3 4 rfl rfl
       have a5 := S3.c 3 5 rfl rfl
       have a6 := S3.c 3 6 rfl rfl
       have a7 := S3.c 3 7 rfl rfl
       have a8 := S3.c 3 8 rfl rfl
       have a9 := S3.c 3 9 rfl rfl
       have a10 := S3.c 3 10 rfl rfl
       have a11 := S3.c 3 11 rfl rfl
       match i, hi with
       | 0, _ =>
        refine sv0 [] (ve (.slice (some ⟨g, 0, none⟩) 3 3)) rfl fun K hK => ?_; clear hd; simp only [frD] at hK ⊢; go_simp
        exact hK _ _ bl rfl
       | 1, _ =>
        have qe0 : (vs 0) = .slice (some ⟨g, 0, none⟩) 3 3 := hdk hd 0
        refine sv0 [(0, some 56)] (ve (.pointer (some ⟨g, 8, none⟩))) rfl fun K hK => ?_; clear hd; simp only [frD, qe0] at hK ⊢; go_simp
        exact hK _ _ bl rfl
       | 2, _ =>
        have qe1 : (vs 1) = .pointer (some ⟨g, 8, none⟩) := hdk hd 1
        refine sv0 [(1, some 57)] (ve (.agg #[.bool v2, .slice A2 n2 c2, .bool u2, .slice B2 m2 e2])) rfl fun K hK => ?_; clear hd; simp only [frD, qe1] at hK ⊢; go_simp
        exact hK _ _ bl rfl
       | 3, _ =>
        refine sv0 [] (ve (.slice (some ⟨g, 0, none⟩) 3 3)) rfl fun K hK => ?_; clear hd; simp only [frD] at hK ⊢; go_simp
        exact hK _ _ bl rfl
       | 4, _ =>
        have qe3 : (vs 3) = .slice (some ⟨g, 0, none⟩) 3 3 := hdk hd 3
        refine sv0 [(3, some 59)] (ve (.pointer (some ⟨g, 0, none⟩))) rfl fun K hK => ?_; clear hd; simp only [frD, qe3] at hK ⊢; go_simp
        exact hK _ _ bl rfl
       | 5, _ =>
        have qe4 : (vs 4) = .pointer (some ⟨g, 0, none⟩) := hdk hd 4
        refine sv0 [(4, some 60)] (ve (.agg #[.bool v0, .slice A0 n0 c0, .bool u0, .slice B0 m0 e0])) rfl fun K hK => ?_; clear hd; simp only [frD, qe4] at hK ⊢; go_simp
        exact hK _ _ bl rfl
       | 6, _ =>
        refine sv0 [] (ve (.slice (some ⟨g, 0, none⟩) 3 3)) rfl fun K hK => ?_; clear hd; simp only [frD] at hK ⊢; go_simp
        exact hK _ _ bl rfl
       | 7, _ =>
        have qe6 : (vs 6) = .slice (some ⟨g, 0, none⟩) 3 3 := hdk hd 6
        refine sv0 [(6, some 62)] (ve (.pointer (some ⟨g, 4, none⟩))) rfl fun K hK => ?_; clear hd; simp only [frD, qe6] at hK ⊢; go_simp
        exact hK _ _ bl rfl
       | 8, _ =>
        have qe7 : (vs 7) = .pointer (some ⟨g, 4, none⟩) := hdk hd 7
        refine sv0 [(7, some 63)] (ve (.agg #[.bool v1, .slice A1 n1 c1, .bool u1, .slice B1 m1 e1])) rfl fun K hK => ?_; clear hd; simp only [frD, qe7] at hK ⊢; go_simp
        exact hK _ _ bl rfl
       | 9, _ =>
        have qe2 : (vs 2) = .agg #[.bool v2, .slice A2 n2 c2, .bool u2, .slice B2 m2 e2] := hdk hd 2; have qe5 : (vs 5) = .agg #[.bool v0, .slice A0 n0 c0, .bool u0, .slice B0 m0 e0] := hdk hd 5; have qe8 : (vs 8) = .agg #[.bool v1, .slice A1 n1 c1, .bool u1, .slice B1 m1 e1] := hdk hd 8
        refine sc (A := #[(vs 2), (vs 5), (vs 8)]) (B := #[.agg #[.bool v2, .slice A2 n2 c2, .bool u2, .slice B2 m2 e2], .agg #[.bool v0, .slice A0 n0 c0, .bool u0, .slice B0 m0 e0], .agg #[.bool v1, .slice A1 n1 c1, .bool u1, .slice B1 m1 e1]]) [(2, some 58), (5, some 61), (8, some 64)] (fun vF wF => RatRep wF vF (l2 * (l2 * l2) / (3 * ((l2 - l0) * (l2 - l1))))) rfl (wanted_none rfl) (by rw [qe2, qe5, qe8]) Tryz.func109 ?_
        refine ((vpeak_num (S3.ri 5 rfl) (S3.ri 3 rfl) (S3.ri 4 rfl) (by omega) (by omega) (by omega) (pkA HS1.out HS2.out HS3.out t1 t2 t3))).mono ?_; rintro e w4 ⟨U, rfl, hr, hk4⟩; exact ⟨_, rfl, hk4, hr⟩
       | 10, _ =>
        refine step_yes [] rfl (by kernel_rfl) fun K hK => ?_; simp only [frD] at hK ⊢; refine ⟨by rfl, ?_⟩; go_simp
        exact hK _ _ ⟨bl.alloc (Nat.le_refl _) _, ⟨_, rfl, hk3.size, Own.new w3 _ _⟩, fun _ => ⟨rfl, by simp⟩⟩
       | i + 11, hi => exact absurd hi (by omega)
      ·intro vs W40 hk3 hΦ _
       simp only [List.drop_succ_cons, List.drop_zero]
       rw [fr_frD, show (List.range 11).map _ = [(0, some 56), (1, some 57), (2, some 58), (3, some 59), (4, some 60), (5, some 61), (6, some 62), (7, some 63), (8, some 64), (9, some 65), (10, some 13)] by kernel_rfl]
       have pg0 : (vs 0) = .slice (some ⟨g, 0, none⟩) 3 3 := hΦ 0 (by decide)
       have pg1 : (vs 1) = .pointer (some ⟨g, 8, none⟩) := hΦ 1 (by decide)
       have pg2 : (vs 2) = .agg #[.bool v2, .slice A2 n2 c2, .bool u2, .slice B2 m2 e2] := hΦ 2 (by decide)
       have pg3 : (vs 3) = .slice (some ⟨g, 0, none⟩) 3 3 := hΦ 3 (by decide)
       have pg4 : (vs 4) = .pointer (some ⟨g, 0, none⟩) := hΦ 4 (by decide)
       have pg5 : (vs 5) = .agg #[.bool v0, .slice A0 n0 c0, .bool u0, .slice B0 m0 e0] := hΦ 5 (by decide)
       have pg6 : (vs 6) = .slice (some ⟨g, 0, none⟩) 3 3 := hΦ 6 (by decide)
       have pg7 : (vs 7) = .pointer (some ⟨g, 4, none⟩) := hΦ 7 (by decide)
       have pg8 : (vs 8) = .agg #[.bool v1, .slice A1 n1 c1, .bool u1, .slice B1 m1 e1] := hΦ 8 (by decide)
       have pg9 : RatRep W40 (vs 9) (l2 * (l2 * l2) / (3 * ((l2 - l0) * (l2 - l1)))) := hΦ 9 (by decide)
       have pg10 : ∃ b, (vs 10) = .pointer (some ⟨b, 0, none⟩) ∧ W39.heap.size ≤ b ∧ Own W40 b 35 [.bool false, .slice none 0 0, .bool false, .slice none 0 0] := hΦ 10 (by decide)
       clear hΦ
       obtain ⟨bpg10, qA10, hlA10, hOA10⟩ := pg10
       simp only [frD, pg0, pg1, pg2, pg3, pg4, pg5, pg6, pg7, pg8, qA10]
       simp only [Act.put, List.setIfInBounds_toArray, List.set_cons_zero, List.set_cons_succ]
       clear pg0 pg1 pg2 pg3 pg4 pg5 pg6 pg7 pg8
       generalize vs 9 = Upg9 at pg9 ⊢
       replace S := S.drew.box (S.drew.below hk3) hOA10 hlA10
       clear qA10 hlA10 hOA10
       obtain ⟨b36, A36, n36, c36, d36, B36, m36, e36, rfl⟩ := pg9.open_
       replace S := S.addQ pg9
       clear pg9
       clear hk3
       have r6_0 := S.c 0 0 rfl rfl
       have f6_0 := S.f 0 0 rfl
       have r6_1 := S.c 0 1 rfl rfl
       have f6_1 := S.f 0 1 rfl
       have r6_2 := S.c 0 2 rfl rfl
       have f6_2 := S.f 0 2 rfl
       have r6_3 := S.c 0 3 rfl rfl
       have f6_3 := S.f 0 3 rfl
       go_upto_region 12 with fail
       replace S := (S.put4 0 rfl rfl rfl (x' := .bool b36) (y' := .slice A36 n36 c36) (z' := .bool d36) (u' := .slice B36 m36 e36))
       obtain ⟨W41, eW, S⟩ := S.pack
       rw [eW]
       clear eW
       clear r6_0 f6_0 r6_1 f6_1 r6_2 f6_2 r6_3 f6_3
       refine wp_region_steps (m := 4) rfl (by kernel_rfl) (fun iF vF wF => (List.getD [ve (.agg #[.bool b36, .slice A36 n36 c36, .bool d36, .slice B36 m36 e36]), ve (.agg #[.bool b36, .slice A36 n36 c36, .bool d36, .slice B36 m36 e36]), ve (.agg #[.bool b34, .slice A34 n34 c34, .bool d34, .slice B34 m34 e34]), fun vF wF => RatRep wF vF ((l2 * (l2 * l2) / (3 * ((l2 - l0) * (l2 - l1)))) - ((Rat.divInt 1 3) * (l0 + l1 + l2)))] iF (fun _ _ => True)) vF wF) [] ?_ ?_ ?_
       ·intro i v w w' _ h hk
        refine stabL_get ?_ i v w w' h hk
        exact stab_cons st_e (stab_cons st_e (stab_cons st_e (stab_cons st_q stab_nil)))
       ·intro i hi vs w3 hk3 hd
        have S3 := S.drew.below hk3
        obtain ⟨a0, a1, a2, a3⟩ := S3.cc4 2 rfl
        obtain ⟨a4, a5, a6, a7⟩ := S3.cc4 0 rfl
        match i, hi with
        | 0, _ =>
         refine sv0 [] (ve (.agg #[.bool b36, .slice A36 n36 c36, .bool d36, .slice B36 m36 e36])) rfl fun K hK => ?_; clear hd; simp only [frD] at hK ⊢; go_simp
         exact hK _ _ bl rfl
        | 1, _ =>
         refine sv0 [] (ve (.agg #[.bool b36, .slice A36 n36 c36, .bool d36, .slice B36 m36 e36])) rfl fun K hK => ?_; clear hd; simp only [frD] at hK ⊢; go_simp
         exact hK _ _ bl rfl
        | 2, _ =>
         refine sv0 [] (ve (.agg #[.bool b34, .slice A34 n34 c34, .bool d34, .slice B34 m34 e34])) rfl fun K hK => ?_; clear hd; simp only [frD] at hK ⊢; go_simp
         exact hK _ _ bl rfl
        | 3, _ =>
         have qe1 : (vs 1) = .agg #[.bool b36, .slice A36 n36 c36, .bool d36, .slice B36 m36 e36] := hdk hd 1; have qe2 : (vs 2) = .agg #[.bool b34, .slice A34 n34 c34, .bool d34, .slice B34 m34 e34] := hdk hd 2
         refine sc (A := #[(vs 1), (vs 2)]) (B := #[.agg #[.bool b36, .slice A36 n36 c36, .bool d36, .slice B36 m36 e36], .agg #[.bool b34, .slice A34 n34 c34, .bool d34, .slice B34 m34 e34]]) [(1, some 67), (2, some 68)] (fun vF wF => RatRep wF vF ((l2 * (l2 * l2) / (3 * ((l2 - l0) * (l2 - l1)))) - ((Rat.divInt 1 3) * (l0 + l1 + l2)))) rfl (wanted_none rfl) (by rw [qe1, qe2]) Tryz.func35 ?_
         refine ((fsub_num ((S3.qi 0 rfl).num (by omega)) ((S3.qi 2 rfl).num (by omega)))).mono ?_; rintro e w4 ⟨U, rfl, hr, hk4⟩; exact ⟨_, rfl, hk4, hr⟩
        | i + 4, hi => exact absurd hi (by omega)
       ·intro vs W42 hk3 hΦ _
        simp only [List.drop_succ_cons, List.drop_zero]
        rw [fr_frD, show (List.range 4).map _ = [(0, some 66), (1, some 67), (2, some 68), (3, some 69)] by kernel_rfl]
        have ph0 : (vs 0) = .agg #[.bool b36, .slice A36 n36 c36, .bool d36, .slice B36 m36 e36] := hΦ 0 (by decide)
        have ph1 : (vs 1) = .agg #[.bool b36, .slice A36 n36 c36, .bool d36, .slice B36 m36 e36] := hΦ 1 (by decide)
        have ph2 : (vs 2) = .agg #[.bool b34, .slice A34 n34 c34, .bool d34, .slice B34 m34 e34] := hΦ 2 (by decide)
        have ph3 : RatRep W42 (vs 3) ((l2 * (l2 * l2) / (3 * ((l2 - l0) * (l2 - l1)))) - ((Rat.divInt 1 3) * (l0 + l1 + l2))) := hΦ 3 (by decide)
        clear hΦ
        simp only [frD, ph0, ph1, ph2]
        simp only [Act.put, List.setIfInBounds_toArray, List.set_cons_zero, List.set_cons_succ]
        clear ph0 ph1 ph2
        generalize vs 3 = Uph3 at ph3 ⊢
        replace S := S.drew.below hk3
        obtain ⟨b37, A37, n37, c37, d37, B37, m37, e37, rfl⟩ := ph3.open_
        replace S := S.addQ ph3
        clear ph3
        clear hk3
        have r0_0 := S.c 6 0 rfl rfl
        have f0_0 := S.f 6 0 rfl
        have r0_1 := S.c 6 1 rfl rfl
        have f0_1 := S.f 6 1 rfl
        have r0_2 := S.c 6 2 rfl rfl
        have f0_2 := S.f 6 2 rfl
        have r0_3 := S.c 6 3 rfl rfl
        have f0_3 := S.f 6 3 rfl
        have r1_0 := S.c 5 0 rfl rfl
        have f1_0 := S.f 5 0 rfl
        have r1_1 := S.c 5 1 rfl rfl
        have f1_1 := S.f 5 1 rfl
        have r1_2 := S.c 5 2 rfl rfl
        have f1_2 := S.f 5 2 rfl
        have r1_3 := S.c 5 3 rfl rfl
        have f1_3 := S.f 5 3 rfl
        go_wp2
        replace S := ((S.put4 6 rfl rfl rfl (x' := .bool b36) (y' := .slice A36 n36 c36) (z' := .bool d36) (u' := .slice B36 m36 e36)).put4 5 rfl rfl rfl (x' := .bool b37) (y' := .slice A37 n37 c37) (z' := .bool d37) (u' := .slice B37 m37 e37))
        refine bodyPost_ret (v := .tuple #[.agg #[.bool b36, .slice A36 n36 c36, .bool d36, .slice B36 m36 e36], .agg #[.bool b37, .slice A37 n37 c37, .bool d37, .slice B37 m37 e37]]) (by simp [results, Tryz.results77, go_sem, S.c 6 0 rfl rfl, S.c 6 1 rfl rfl, S.c 6 2 rfl rfl, S.c 6 3 rfl rfl, S.c 5 0 rfl rfl, S.c 5 1 rfl rfl, S.c 5 2 rfl rfl, S.c 5 3 rfl rfl]) rfl ?_
        exact ⟨_, _, _, _, rfl, S.qi 1 rfl, S.qi 0 rfl, by rw [HUP.out, HDN.out]; exact upC HS1.out HS2.out HS3.out t1 t2 t3, S.k⟩
     ·skip
      go_upto_region 13 with fail
      refine wp_region_steps (m := 14) rfl (by kernel_rfl) (fun iF vF wF => (List.getD [ve (.slice (some ⟨g, 0, none⟩) 3 3), ve (.pointer (some ⟨g, 0, none⟩)), ve (.agg #[.bool v0, .slice A0 n0 c0, .bool u0, .slice B0 m0 e0]), fun vF wF => RatRep wF vF (-l0), ve (.slice (some ⟨g, 0, none⟩) 3 3), ve (.pointer (some ⟨g, 4, none⟩)), ve (.agg #[.bool v1, .slice A1 n1 c1, .bool u1, .slice B1 m1 e1]), fun vF wF => RatRep wF vF (-l1), ve (.slice (some ⟨g, 0, none⟩) 3 3), ve (.pointer (some ⟨g, 8, none⟩)), ve (.agg #[.bool v2, .slice A2 n2 c2, .bool u2, .slice B2 m2 e2]), fun vF wF => RatRep wF vF (-l2), fun vF wF => RatRep wF vF ((-l0) * ((-l0) * (-l0)) / (3 * (((-l0) - (-l1)) * ((-l0) - (-l2))))), fun vF wF => ∃ b, vF = .pointer (some ⟨b, 0, none⟩) ∧ W39.heap.size ≤ b ∧ Own wF b 35 [.bool false, .slice none 0 0, .bool false, .slice none 0 0]] iF (fun _ _ => True)) vF wF) [13] ?_ ?_ ?_
      ·intro i v w w' _ h hk
       refine stabL_get ?_ i v w w' h hk
       exact stab_cons st_e (stab_cons st_e (stab_cons st_e (stab_cons st_q (stab_cons st_e (stab_cons st_e (stab_cons st_e (stab_cons st_q (stab_cons st_e (stab_cons st_e (stab_cons st_e (stab_cons st_q (stab_cons st_q (stab_cons st_a stab_nil)))))))))))))
      ·intro i hi vs w3 hk3 hd
       have S3 := S.drew.below hk3
       have a0 := S3.c 3 0 rfl rfl
       have a1 := S3.c 3 1 rfl rfl
       have a2 := S3.c 3 2 rfl rfl
       have a3 := S3.c 3 3 rfl rfl
       have a4 := S3.c 3 4 rfl rfl
       have a5 := S3.c 3 5 rfl rfl
       have a6 := S3.c 3 6 rfl rfl
       have a7 := S3.c 3 7 rfl rfl
       have a8 := S3.c 3 8 rfl rfl
       have a9 := S3.c 3 9 rfl rfl
       have a10 := S3.c 3 10 rfl rfl
       have a11 := S3.c 3 11 rfl rfl
       match i, hi with
       | 0, _ =>
        refine sv0 [] (ve (.slice (some ⟨g, 0, none⟩) 3 3)) rfl fun K hK => ?_; clear hd; simp only [frD] at hK ⊢; go_simp
        exact hK _ _ bl rfl
       | 1, _ =>
        have qe0 : (vs 0) = .slice (some ⟨g, 0, none⟩) 3 3 := hdk hd 0
        refine sv0 [(0, some 70)] (ve (.pointer (some ⟨g, 0, none⟩))) rfl fun K hK => ?_; clear hd; simp only [frD, qe0] at hK ⊢; go_simp
        exact hK _ _ bl rfl
       | 2, _ =>
        have qe1 : (vs 1) = .pointer (some ⟨g, 0, none⟩) := hdk hd 1
        refine sv0 [(1, some 71)] (ve (.agg #[.bool v0, .slice A0 n0 c0, .bool u0, .slice B0 m0 e0])) rfl fun K hK => ?_; clear hd; simp only [frD, qe1] at hK ⊢; go_simp
        exact hK _ _ bl rfl
       | 3, _ =>
        have qe2 : (vs 2) = .agg #[.bool v0, .slice A0 n0 c0, .bool u0, .slice B0 m0 e0] := hdk hd 2
        refine sc (A := #[(vs 2)]) (B := #[.agg #[.bool v0, .slice A0 n0 c0, .bool u0, .slice B0 m0 e0]]) [(2, some 72)] (fun vF wF => RatRep wF vF (-l0)) rfl (wanted_none rfl) (by rw [qe2]) Tryz.func69 ?_
        refine ((fneg_num (S3.ri 3 rfl))).mono ?_; rintro e w4 ⟨U, rfl, hr, hk4⟩; exact ⟨_, rfl, hk4, hr⟩
       | 4, _ =>
        refine sv0 [] (ve (.slice (some ⟨g, 0, none⟩) 3 3)) rfl fun K hK => ?_; clear hd; simp only [frD] at hK ⊢; go_simp
        exact hK _ _ bl rfl
       | 5, _ =>
        have qe4 : (vs 4) = .slice (some ⟨g, 0, none⟩) 3 3 := hdk hd 4
        refine sv0 [(4, some 74)] (ve (.pointer (some ⟨g, 4, none⟩))) rfl fun K hK => ?_; clear hd; simp only [frD, qe4] at hK ⊢; go_simp
        exact hK _ _ bl rfl
       | 6, _ =>
        have qe5 : (vs 5) = .pointer (some ⟨g, 4, none⟩) := hdk hd 5
        refine sv0 [(5, some 75)] (ve (.agg #[.bool v1, .slice A1 n1 c1, .bool u1, .slice B1 m1 e1])) rfl fun K hK => ?_; clear hd; simp only [frD, qe5] at hK ⊢; go_simp
        exact hK _ _ bl rfl
       | 7, _ =>
        have h3 : RatRep w3 (vs 3) (-l0) := hdk hd 3; have qe6 : (vs 6) = .agg #[.bool v1, .slice A1 n1 c1, .bool u1, .slice B1 m1 e1] := hdk hd 6
        refine sc (A := #[(vs 6)]) (B := #[.agg #[.bool v1, .slice A1 n1 c1, .bool u1, .slice B1 m1 e1]]) [(3, some 73), (6, some 76)] (fun vF wF => RatRep wF vF (-l1)) rfl (wanted_none rfl) (by rw [qe6]) Tryz.func69 ?_
        refine ((fneg_num (S3.ri 4 rfl))).mono ?_; rintro e w4 ⟨U, rfl, hr, hk4⟩; exact ⟨_, rfl, hk4, hr⟩
       | 8, _ =>
        refine sv0 [] (ve (.slice (some ⟨g, 0, none⟩) 3 3)) rfl fun K hK => ?_; clear hd; simp only [frD] at hK ⊢; go_simp
        exact hK _ _ bl rfl
       | 9, _ =>
        have qe8 : (vs 8) = .slice (some ⟨g, 0, none⟩) 3 3 := hdk hd 8
        refine sv0 [(8, some 78)] (ve (.pointer (some ⟨g, 8, none⟩))) rfl fun K hK => ?_; clear hd; simp only [frD, qe8] at hK ⊢; go_simp
        exact hK _ _ bl rfl
       | 10, _ =>
        have qe9 : (vs 9) = .pointer (some ⟨g, 8, none⟩) := hdk hd 9
        refine sv0 [(9, some 79)] (ve (.agg #[.bool v2, .slice A2 n2 c2, .bool u2, .slice B2 m2 e2])) rfl fun K hK => ?_; clear hd; simp only [frD, qe9] at hK ⊢; go_simp
        exact hK _ _ bl rfl
       | 11, _ =>
        have h7 : RatRep w3 (vs 7) (-l1) := hdk hd 7; have qe10 : (vs 10) = .agg #[.bool v2, .slice A2 n2 c2, .bool u2, .slice B2 m2 e2] := hdk hd 10
        refine sc (A := #[(vs 10)]) (B := #[.agg #[.bool v2, .slice A2 n2 c2, .bool u2, .slice B2 m2 e2]]) [(7, some 77), (10, some 80)] (fun vF wF => RatRep wF vF (-l2)) rfl (wanted_none rfl) (by rw [qe10]) Tryz.func69 ?_
        refine ((fneg_num (S3.ri 5 rfl))).mono ?_; rintro e w4 ⟨U, rfl, hr, hk4⟩; exact ⟨_, rfl, hk4, hr⟩
       | 12, _ =>
        have h3 : RatRep w3 (vs 3) (-l0) := hdk hd 3; have h7 : RatRep w3 (vs 7) (-l1) := hdk hd 7; have h11 : RatRep w3 (vs 11) (-l2) := hdk hd 11
        refine sc (A := #[(vs 3), (vs 7), (vs 11)]) (B := #[(vs 3), (vs 7), (vs 11)]) [(3, some 73), (7, some 77), (11, some 81)] (fun vF wF => RatRep wF vF ((-l0) * ((-l0) * (-l0)) / (3 * (((-l0) - (-l1)) * ((-l0) - (-l2)))))) rfl (wanted_none rfl) rfl Tryz.func109 ?_
        refine ((vpeak_num (h3.num (by omega)) (h7.num (by omega)) (h11.num (by omega)) (by omega) (by omega) (by omega) (pkB HS1.out HS2.out HS3.out t1 t2 t3))).mono ?_; rintro e w4 ⟨U, rfl, hr, hk4⟩; exact ⟨_, rfl, hk4, hr⟩
       | 13, _ =>
        refine step_yes [] rfl (by kernel_rfl) fun K hK => ?_; simp only [frD] at hK ⊢; refine ⟨by rfl, ?_⟩; go_simp
        exact hK _ _ ⟨bl.alloc (Nat.le_refl _) _, ⟨_, rfl, hk3.size, Own.new w3 _ _⟩, fun _ => ⟨rfl, by simp⟩⟩
       | i + 14, hi => exact absurd hi (by omega)
      ·intro vs W40 hk3 hΦ _
       simp only [List.drop_succ_cons, List.drop_zero]
       rw [fr_frD, show (List.range 14).map _ = [(0, some 70), (1, some 71), (2, some 72), (3, some 73), (4, some 74), (5, some 75), (6, some 76), (7, some 77), (8, some 78), (9, some 79), (10, some 80), (11, some 81), (12, some 82), (13, some 14)] by kernel_rfl]
       have pg0 : (vs 0) = .slice (some ⟨g, 0, none⟩) 3 3 := hΦ 0 (by decide)
       have pg1 : (vs 1) = .pointer (some ⟨g, 0, none⟩) := hΦ 1 (by decide)
       have pg2 : (vs 2) = .agg #[.bool v0, .slice A0 n0 c0, .bool u0, .slice B0 m0 e0] := hΦ 2 (by decide)
       have pg3 : RatRep W40 (vs 3) (-l0) := hΦ 3 (by decide)
       have pg4 : (vs 4) = .slice (some ⟨g, 0, none⟩) 3 3 := hΦ 4 (by decide)
       have pg5 : (vs 5) = .pointer (some ⟨g, 4, none⟩) := hΦ 5 (by decide)
       have pg6 : (vs 6) = .agg #[.bool v1, .slice A1 n1 c1, .bool u1, .slice B1 m1 e1] := hΦ 6 (by decide)
       have pg7 : RatRep W40 (vs 7) (-l1) := hΦ 7 (by decide)
       have pg8 : (vs 8) = .slice (some ⟨g, 0, none⟩) 3 3 := hΦ 8 (by decide)
       have pg9 : (vs 9) = .pointer (some ⟨g, 8, none⟩) := hΦ 9 (by decide)
       have pg10 : (vs 10) = .agg #[.bool v2, .slice A2 n2 c2, .bool u2, .slice B2 m2 e2] := hΦ 10 (by decide)
       have pg11 : RatRep W40 (vs 11) (-l2) := hΦ 11 (by decide)
       have pg12 : RatRep W40 (vs 12) ((-l0) * ((-l0) * (-l0)) / (3 * (((-l0) - (-l1)) * ((-l0) - (-l2))))) := hΦ 12 (by decide)
       have pg13 : ∃ b, (vs 13) = .pointer (some ⟨b, 0, none⟩) ∧ W39.heap.size ≤ b ∧ Own W40 b 35 [.bool false, .slice none 0 0, .bool false, .slice none 0 0] := hΦ 13 (by decide)
       clear hΦ
       obtain ⟨bpg13, qA13, hlA13, hOA13⟩ := pg13
       simp only [frD, pg0, pg1, pg2, pg4, pg5, pg6, pg8, pg9, pg10, qA13]
       simp only [Act.put, List.setIfInBounds_toArray, List.set_cons_zero, List.set_cons_succ]
       clear pg0 pg1 pg2 pg4 pg5 pg6 pg8 pg9 pg10
       generalize vs 3 = Upg3 at pg3 ⊢
       generalize vs 7 = Upg7 at pg7 ⊢
       generalize vs 11 = Upg11 at pg11 ⊢
       generalize vs 12 = Upg12 at pg12 ⊢
       replace S := S.drew.box (S.drew.below hk3) hOA13 hlA13
       clear qA13 hlA13 hOA13
       clear pg3
       clear pg7
       clear pg11
       obtain ⟨b36, A36, n36, c36, d36, B36, m36, e36, rfl⟩ := pg12.open_
       replace S := S.addQ pg12
       clear pg12
       clear hk3
       have r6_0 := S.c 0 0 rfl rfl
       have f6_0 := S.f 0 0 rfl
       have r6_1 := S.c 0 1 rfl rfl
       have f6_1 := S.f 0 1 rfl
       have r6_2 := S.c 0 2 rfl rfl
       have f6_2 := S.f 0 2 rfl
       have r6_3 := S.c 0 3 rfl rfl
       have f6_3 := S.f 0 3 rfl
       go_upto_region 14 with fail
       replace S := (S.put4 0 rfl rfl rfl (x' := .bool b36) (y' := .slice A36 n36 c36) (z' := .bool d36) (u' := .slice B36 m36 e36))
       obtain ⟨W41, eW, S⟩ := S.pack
       rw [eW]
       clear eW
       clear r6_0 f6_0 r6_1 f6_1 r6_2 f6_2 r6_3 f6_3
       replace S := S.drew
       go_region_held3 (fun w' => w'.cell? ⟨bpg13, 0, none⟩ = some (.bool b36) ∧ w'.cell? ⟨bpg13, 1, none⟩ = some (.slice A36 n36 c36) ∧ w'.cell? ⟨bpg13, 2, none⟩ = some (.bool d36) ∧ w'.cell? ⟨bpg13, 3, none⟩ = some (.slice B36 m36 e36) ∧ w'.cell? ⟨bpf4, 0, none⟩ = some (.bool b34) ∧ w'.cell? ⟨bpf4, 1, none⟩ = some (.slice A34 n34 c34) ∧ w'.cell? ⟨bpf4, 2, none⟩ = some (.bool d34) ∧ w'.cell? ⟨bpf4, 3, none⟩ = some (.slice B34 m34 e34))
        (first
         | with_reducible exact ⟨S.c 0 0 rfl rfl, S.c 0 1 rfl rfl, S.c 0 2 rfl rfl, S.c 0 3 rfl rfl, S.c 2 0 rfl rfl, S.c 2 1 rfl rfl, S.c 2 2 rfl rfl, S.c 2 3 rfl rfl⟩
         | with_reducible exact ⟨(S.put4 6 rfl rfl rfl).c 0 0 rfl rfl, (S.put4 6 rfl rfl rfl).c 0 1 rfl rfl, (S.put4 6 rfl rfl rfl).c 0 2 rfl rfl, (S.put4 6 rfl rfl rfl).c 0 3 rfl rfl, (S.put4 6 rfl rfl rfl).c 2 0 rfl rfl, (S.put4 6 rfl rfl rfl).c 2 1 rfl rfl, (S.put4 6 rfl rfl rfl).c 2 2 rfl rfl, (S.put4 6 rfl rfl rfl).c 2 3 rfl rfl⟩
         | with_reducible exact ⟨((S.put4 6 rfl rfl rfl).put4 5 rfl rfl rfl).c 0 0 rfl rfl, ((S.put4 6 rfl rfl rfl).put4 5 rfl rfl rfl).c 0 1 rfl rfl, ((S.put4 6 rfl rfl rfl).put4 5 rfl rfl rfl).c 0 2 rfl rfl, ((S.put4 6 rfl rfl rfl).put4 5 rfl rfl rfl).c 0 3 rfl rfl, ((S.put4 6 rfl rfl rfl).put4 5 rfl rfl rfl).c 2 0 rfl rfl, ((S.put4 6 rfl rfl rfl).put4 5 rfl rfl rfl).c 2 1 rfl rfl, ((S.put4 6 rfl rfl rfl).put4 5 rfl rfl rfl).c 2 2 rfl rfl, ((S.put4 6 rfl rfl rfl).put4 5 rfl rfl rfl).c 2 3 rfl rfl⟩)
        (first
         | (go_at_call 36; refine (fadd_num ((S.qi 0 rfl).num (by omega)) ((S.qi 2 rfl).num (by omega))).mono ?_; rintro e W6 ⟨U8, rfl, hp2, hk2⟩; obtain ⟨b5, A5, n5, c5, d5, B5, m5, e5, rfl⟩ := hp2.open_; replace S := (S.below hk2).addQ hp2; have r6_0 := S.c 6 0 rfl rfl; have r6_1 := S.c 6 1 rfl rfl; have r6_2 := S.c 6 2 rfl rfl; have r6_3 := S.c 6 3 rfl rfl; have f6_0 := S.f 6 0 rfl; have f6_1 := S.f 6 1 rfl; have f6_2 := S.f 6 2 rfl; have f6_3 := S.f 6 3 rfl; have T := S.put4 6 rfl rfl rfl (x' := .bool b5) (y' := .slice A5 n5 c5) (z' := .bool d5) (u' := .slice B5 m5 e5); have r5_0 := T.c 5 0 rfl rfl; have r5_1 := T.c 5 1 rfl rfl; have r5_2 := T.c 5 2 rfl rfl; have r5_3 := T.c 5 3 rfl rfl; have f5_0 := T.f 5 0 rfl; have f5_1 := T.f 5 1 rfl; have f5_2 := T.f 5 2 rfl; have f5_3 := T.f 5 3 rfl))
       all_goals
        replace S := (S.put4 6 rfl rfl rfl (x' := .bool b5) (y' := .slice A5 n5 c5) (z' := .bool d5) (u' := .slice B5 m5 e5)).put4 5 rfl rfl rfl (x' := .bool b36) (y' := .slice A36 n36 c36) (z' := .bool d36) (u' := .slice B36 m36 e36)
        go_wp2
        refine bodyPost_ret (v := .tuple #[.agg #[.bool b5, .slice A5 n5 c5, .bool d5, .slice B5 m5 e5], .agg #[.bool b36, .slice A36 n36 c36, .bool d36, .slice B36 m36 e36]]) (by simp [results, Tryz.results77, go_sem, S.c 6 0 rfl rfl, S.c 6 1 rfl rfl, S.c 6 2 rfl rfl, S.c 6 3 rfl rfl, S.c 5 0 rfl rfl, S.c 5 1 rfl rfl, S.c 5 2 rfl rfl, S.c 5 3 rfl rfl]) rfl ?_
        exact ⟨_, _, _, _, rfl, S.qi 0 rfl, S.qi 1 rfl, by rw [HUP.out, HDN.out]; exact upD HS1.out HS2.out HS3.out t1 t2 t3, S.k⟩
end Go.Proofs.YtecibfncnaccjaaGreat
