/- Arithmetic of the reference's parts. No program in sight. The walk of the reference's parts: quotient and remainder of two magnitudes. The walks of the reference's pair and Gcd. The walk of Divide. -/
import Derived.Test.YtomjnjpehokjbaaGreatDoorMgPre
import Derived.Test.YtomjnjpehokjbaaGreatDoorMgOver
import Derived.Test.YtomjnjpehokjbaaGreatDoorRNew
import Derived.Test.YtomjnjpehokjbaaGreatDoorMgIntA
namespace Go.Proofs.YtomjnjpehokjbaaGreatDoor

theorem val_drop_dig (w i : Nat) : val ((dig w).drop i) = w / 1000000000 ^ i := by
  have h := wv_rest (dig w) 0 i
  rw [List.drop_zero, val_dig, wv_low, Nat.zero_add] at h
  have hl : val ((dig w).take i) < 1000000000 ^ i := by rw [← wv_low]; exact wv_lt (AllB.dig w) 0 i
  have hp : 0 < 1000000000 ^ i := Nat.pow_pos (by omega)
  have e : w / 1000000000 ^ i = (val ((dig w).take i) + 1000000000 ^ i * val ((dig w).drop i)) / 1000000000 ^ i := congrArg (· / 1000000000 ^ i) h
  rw [e, Nat.add_mul_div_left _ _ hp, Nat.div_eq_of_lt hl, Nat.zero_add]
/-- the two first groups of a number of at most n + 1 groups -/
theorem two_groups {w n : Nat} (hn : 1 ≤ n) (hw : w < 1000000000 ^ (n + 1)) : ix (dig w) n * 1000000000 + ix (dig w) (n - 1) = w / 1000000000 ^ (n - 1) := by
  have h := wv_rest (dig w) (n - 1) 2
  rw [val_drop_dig, wv_succ, wv_succ, wv_zero, show n - 1 + 2 = n + 1 by omega, show n - 1 + 1 = n by omega, Nat.add_zero, val_drop_dig, Nat.div_eq_of_lt hw] at h
  omega
theorem one_group {y n : Nat} (hn : 1 ≤ n) (hy : y < 1000000000 ^ n) : ix (dig y) (n - 1) = y / 1000000000 ^ (n - 1) := by
  have h := wv_rest (dig y) (n - 1) 1
  rw [val_drop_dig, wv_succ, wv_zero, show n - 1 + 1 = n by omega, Nat.add_zero, val_drop_dig, Nat.div_eq_of_lt hy] at h
  omega
/-- the first guess is not too great -/
theorem guess_le {w y P : Nat} (hP : 0 < P) : (w / P) / (y / P + 1) * y ≤ w := by
  have h1 : y ≤ (y / P + 1) * P := by have := Nat.lt_div_mul_add (a := y) hP; rw [Nat.add_mul]; omega
  calc (w / P) / (y / P + 1) * y ≤ (w / P) / (y / P + 1) * ((y / P + 1) * P) := Nat.mul_le_mul_left _ h1
    _ = (w / P) / (y / P + 1) * (y / P + 1) * P := (Nat.mul_assoc _ _ _).symm
    _ ≤ w / P * P := Nat.mul_le_mul_right _ (Nat.div_mul_le_self _ _)
    _ ≤ w := Nat.div_mul_le_self _ _
theorem guess_lt {g w y : Nat} (h : g * y ≤ w) (hw : w < y * 1000000000) : g < 1000000000 := by
  apply Nat.lt_of_mul_lt_mul_right (a := y)
  rw [Nat.mul_comm 1000000000]; omega
theorem guess_done {g w y : Nat} (h : g * y ≤ w) (hw : w - g * y < y) : g = w / y ∧ w - g * y = w % y :=
  div_of (by omega) hw
/-- the factor -/
theorem factor_facts {y n f : Nat} (hn : 1 ≤ n) (hl : (dig y).length = n) (hy0 : y ≠ 0) (hf : f = 1000000000 / (ix (dig y) (n - 1) + 1)) :
    1 ≤ f ∧ f ≤ 500000000 ∧ (dig (y * f)).length = n := by
  have hlt : y < 1000000000 ^ n := by have := dig_lt y; rwa [hl] at this
  have hge := dig_ge hy0
  rw [hl] at hge
  have htop := dig_last hy0
  rw [hl] at htop
  have htb := (AllB.dig y).ix (n - 1)
  have h1 := one_group hn hlt
  have hP : 0 < 1000000000 ^ (n - 1) := Nat.pow_pos (by omega)
  generalize hg : ix (dig y) (n - 1) = g at *
  have hff : f * (g + 1) ≤ 1000000000 := by rw [hf]; exact Nat.div_mul_le_self _ _
  have hf1 : 1 ≤ f := by rw [hf]; exact (Nat.le_div_iff_mul_le (by omega)).2 (by omega)
  refine ⟨hf1, ?_, ?_⟩
  · have h2 : f * 2 ≤ f * (g + 1) := Nat.mul_le_mul_left _ (by omega)
    omega
  · have hup : y * f < 1000000000 ^ n := by
      have h2 : y < (g + 1) * 1000000000 ^ (n - 1) := by
        rw [h1, Nat.add_mul]; have := Nat.lt_div_mul_add (a := y) hP; omega
      have h3 : (g + 1) * f ≤ 1000000000 := by rw [Nat.mul_comm]; exact hff
      calc y * f < (g + 1) * 1000000000 ^ (n - 1) * f := Nat.mul_lt_mul_of_pos_right h2 hf1
        _ = (g + 1) * f * 1000000000 ^ (n - 1) := by rw [Nat.mul_assoc, Nat.mul_comm (1000000000 ^ (n - 1)) f, Nat.mul_assoc]
        _ ≤ 1000000000 * 1000000000 ^ (n - 1) := Nat.mul_le_mul_right _ h3
        _ = 1000000000 ^ n := by rw [Nat.mul_comm, ← Nat.pow_succ, Nat.succ_eq_add_one, Nat.sub_add_cancel hn]
    have := dig_length_le hup
    have h4 : y ≤ y * f := Nat.le_mul_of_pos_right _ hf1
    have := dig_length_mono h4
    omega
/-- one group more -/
theorem part_step {xs q : List Nat} {t Y r w g : Nat} (hY : 0 < Y) (ht : t < xs.length) (hq : t < q.length)
    (hr : r = val (xs.drop (t + 1)) % Y) (hv : val (q.drop (t + 1)) = val (xs.drop (t + 1)) / Y) (hw : w = r * 1000000000 + ix xs t) (hg : g = w / Y) :
    val ((q.set t g).drop t) = val (xs.drop t) / Y ∧ w % Y = val (xs.drop t) % Y := by
  have hx := val_drop xs t ht
  have e : xs.drop t = xs.drop t := rfl
  have hd : val ((q.set t g).drop t) = g + 1000000000 * val (q.drop (t + 1)) := by
    rw [val_drop _ t (by rw [List.length_set]; exact hq)]
    rw [ix_set _ _ _ _ hq, if_pos rfl, List.drop_set_of_lt (by omega)]
  have hm := Nat.div_add_mod (val (xs.drop (t + 1))) Y
  have hX : val (xs.drop t) = w + Y * (1000000000 * (val (xs.drop (t + 1)) / Y)) := by
    rw [hx, hw, hr]
    have h5 : val (xs.drop (t + 1)) * 1000000000 = (Y * (val (xs.drop (t + 1)) / Y) + val (xs.drop (t + 1)) % Y) * 1000000000 := by rw [hm]
    have h6 : Y * (1000000000 * (val (xs.drop (t + 1)) / Y)) = Y * (val (xs.drop (t + 1)) / Y) * 1000000000 := by rw [Nat.mul_comm 1000000000, Nat.mul_assoc]
    rw [h6]
    rw [Nat.add_mul] at h5
    omega
  constructor
  · rw [hd, hv, hX, Nat.add_mul_div_left _ _ hY, hg]
  · rw [hX, Nat.add_mul_mod_self_left]
/-- the end: the remainder is scaled back -/
theorem part_end {X Y f : Nat} (hf : 1 ≤ f) : X * f / (Y * f) = X / Y ∧ X * f % (Y * f) / f = X % Y := by
  constructor
  · exact Nat.mul_div_mul_right _ _ hf
  · rw [Nat.mul_mod_mul_right, Nat.mul_div_cancel _ hf]
end Go.Proofs.YtomjnjpehokjbaaGreatDoor

namespace Go.Proofs.YtomjnjpehokjbaaGreatDoor
open Go.RowKit Go.Shelf

theorem group_z (v : Value) (xs : List Nat) (i : Nat) (z : Int) (w : World) (ez : z = (i : Nat)) (h : U32 w v xs) (ha : AllB xs) (hm : xs.length ≤ 1000000000) (hi : i ≤ 1000000000) :
    Calls Tryz.prog 128 #[v, .int .i64 z] w fun e w' => e = .returned (.int .u64 (ix xs i : Nat)) ∧ w' = w := by
  subst ez
  exact (group_any v xs i w h ha hm hi).mono fun _ _ ⟨h1, h2⟩ => ⟨h1, h2.symm⟩

set_option maxRecDepth 100000 in
set_option maxHeartbeats 1000000 in
theorem rparts_one (v1 v2 : Value) (a b : Nat) (w : World) (h1 : U32 w v1 (dig a)) (h2 : U32 w v2 (dig b)) (hl1 : (dig a).length ≤ 900000) (hb : (dig b).length = 1) :
    Calls Tryz.prog 105 #[v1, v2] w (DivRes a b w) := by
  obtain ⟨hb0, hbB, hb1⟩ := dig_one hb
  obtain ⟨A1, n1, c1, rfl, e1, -, -, -, r1⟩ := h1.open_
  obtain ⟨A2, n, c2, rfl, e2, -, -, -, r2⟩ := h2.open_
  obtain rfl : n = 1 := by omega
  obtain ⟨b2, o2, rfl, hbl2, hcell⟩ := r2 (by omega)
  have hx : w.cell? ⟨b2, o2, none⟩ = some (.int .u32 (b : Nat)) := by
    have := hcell 0 (by omega)
    rw [hb1] at this
    exact this
  have hbI : (b : Int) < 1000000000 := by omega
  have hS := Lib.hid (fun W (k : Keeps w W) => rshort_any (.slice A1 n1 c1) a b W (h1.below k) (by omega) hb0 (by omega))
  have hrb := Nat.mod_lt a hb0
  obtain ⟨R, hR⟩ : ∃ R, a % b = R := ⟨_, rfl⟩
  rw [hR] at hS hrb
  have HR := Lib.hid hR
  have HB := Lib.hid hb0
  clear hR hcell hb1 hb e1 e2 hb0
  have hRI : (R : Int) < 1000000000 := by omega
  go_enter Tryz.func105, Tryz.ntmps105
  go_wp2_with fail
  refine (hS.out w (Below.refl _ _)).mono ?_
  rintro e w1 ⟨q, rfl, hq, hk1⟩
  go_wp2_with fail
  refine (rmade_u false (.slice (some ⟨w1.heap.size, 0, none⟩) 1 1) [R] (w1.alloc (.cells #[.int .u32 (R : Nat)] 51)) (U32.of_own (made_one w1 51 R)) (AllB.single (by omega)) (by simp)).mono ?_
  rintro e w3 ⟨V3, rfl, hr3, hk3⟩
  obtain ⟨A3, n3, c3, rfl, hv3⟩ := hr3.open_
  have hfd := field_groups (.bool (decide (sgn false (val [R]) < 0))) (.slice A3 n3 c3)
  go_wp2
  go_ret2
  have hk13 : Keeps w1 w3 := (box2 w1 _).trans' hk3
  refine ⟨_, _, rfl, hq.below hk13, ?_, hk1.trans' hk13⟩
  rw [sgn_natAbs, show val [R] = R by simp [val]] at hv3
  rw [HR.out]
  exact hv3

set_option maxRecDepth 100000 in
set_option maxHeartbeats 2000000 in
theorem rparts_any (v1 v2 : Value) (a b : Nat) (w : World) (h1 : U32 w v1 (dig a)) (h2 : U32 w v2 (dig b)) (hl1 : (dig a).length ≤ 900000) (hl2 : (dig b).length ≤ 900000) (hb : b ≠ 0) :
    Calls Tryz.prog 105 #[v1, v2] w (DivRes a b w) := by
  have hbp := dig_length_pos.2 hb
  rcases Nat.lt_or_ge 1 (dig b).length with hlen | hlen
  rotate_left
  · exact rparts_one v1 v2 a b w h1 h2 hl1 (by omega)
  obtain ⟨A1, n1, c1, rfl, e1, -, -, -, r1⟩ := h1.open_
  obtain ⟨A2, n, c2, rfl, e2, -, -, -, r2⟩ := h2.open_
  obtain ⟨s, hs⟩ : ∃ s, ((a : Int) - b).sign = s := ⟨_, rfl⟩
  have hL := lt_sign a b
  rw [hs] at hL
  have hc := size_any _ _ a b w h1 h2 (by omega) (by omega)
  rw [hs] at hc
  have hc := Lib.hid hc
  have hn2 : 2 ≤ n := by omega
  have hnb : n ≤ 900000 := by omega
  have hn1 : ((n : Int) == 1) = false := by simp; omega
  clear hs
  rcases hL with ⟨hL, hs⟩ | ⟨hL, hs⟩
  · have hd : decide (s < 0) = true := decide_eq_true hs
    have HL := Lib.hid hL
    clear hL e1 e2 hlen
    go_enter Tryz.func105, Tryz.ntmps105
    go_wp2_with fail
    refine hc.out.mono ?_
    rintro e w1 ⟨rfl, hk1⟩
    go_wp2
    go_ret2
    have hk2 : Keeps w1 (w1.alloc (.cells #[] 51)) := box2 w1 _
    exact ⟨_, _, rfl, by rw [Nat.div_eq_of_lt HL.out, dig_zero]; exact U32.empty _ _, by rw [Nat.mod_eq_of_lt HL.out]; exact (h1.below hk1).below hk2, hk1.trans' hk2⟩
  · have hd : decide (s < 0) = false := decide_eq_false (by omega)
    have hx := fun W (hk : Keeps w W) => (r2.below hk) (by omega)
    have hff := fun f hf => factor_facts (f := f) (show 1 ≤ n by omega) e2 hb hf
    have htb := (AllB.dig b).ix (n - 1)
    obtain ⟨b2, o2, rfl, hbl2, hcell⟩ := r2 (by omega)
    have hcb := fun W (hk : Keeps w W) => by
      have := hcell (n - 1) (by omega)
      rw [← (bcell hk).1 b2 _ hbl2] at this
      exact this
    obtain ⟨y, hy⟩ : ∃ y, ix (dig b) (n - 1) = y := ⟨_, rfl⟩
    rw [hy] at htb hff
    obtain ⟨f, hf⟩ : ∃ f, f = 1000000000 / (y + 1) := ⟨_, rfl⟩
    obtain ⟨hf1, hf2, hYl⟩ := hff f hf
    have HC := Lib.hid hcb
    have HY := Lib.hid hy
    have HF := Lib.hid hf
    have HE1 := Lib.hid e1
    have HE2 := Lib.hid e2
    have HL := Lib.hid hL
    clear hcb hy hx hff hcell hL e1 e2 hlen hf
    have yI : (y : Int) < 1000000000 := by omega
    have fI : (f : Int) ≤ 500000000 := by omega
    have fe : (1000000000 : Int) / ((y : Int) + 1) = (f : Int) := by rw [HF.out, Int.natCast_ediv]; rfl
    go_enter Tryz.func105, Tryz.ntmps105
    go_wp2_with fail
    refine hc.out.mono ?_
    rintro e w1 ⟨rfl, hk1⟩
    have hx : w1.cell? ⟨b2, o2 + (n - 1), none⟩ = some (.int .u32 (y : Nat)) := by have := HC.out w1 hk1; rw [u32, HY.out] at this; exact this
    go_wp2_with fail
    refine (rscaled_d (.slice A1 n1 c1) a f w1 (h1.below hk1) (by omega) (by omega)).mono ?_
    rintro e w2 ⟨X2, rfl, hX2, hk2⟩
    go_wp2_with fail
    refine (rscaled_d _ b f w2 ((h2.below hk1).below hk2) (by omega) (by omega)).mono ?_
    rintro e w3 ⟨Y3, rfl, hY3, hk3⟩
    have hX3 := hX2.below hk3
    have hw3 := (hk1.trans' hk2).trans' hk3
    have hpe := part_end (X := a) (Y := b) hf1
    have hYX : b * f ≤ a * f := Nat.mul_le_mul_right _ HL.out
    have hY0 : 0 < b * f := Nat.mul_pos (by omega) hf1
    have hXl : (dig (a * f)).length ≤ 900001 := by
      have h5 := dig_length_mul a f
      have h6 : (dig f).length ≤ 1 := dig_length_le (k := 1) (by omega)
      omega
    have hYXl := dig_length_mono hYX
    obtain ⟨X, hXe⟩ : ∃ X, a * f = X := ⟨_, rfl⟩
    obtain ⟨Y, hYe⟩ : ∃ Y, b * f = Y := ⟨_, rfl⟩
    rw [hXe] at hX3 hpe hYX hXl hYXl
    rw [hYe] at hY3 hpe hYX hY0 hYl hYXl
    clear hXe hYe hX2 hx hc hd hk1 hk2 hk3
    obtain ⟨A, m, c, rfl, em, hmc, hcm, -, rX⟩ := hX3.open_
    obtain ⟨D, n', c', rfl, en, hnc, -, -, rY⟩ := hY3.open_
    obtain rfl : n' = n := by omega
    obtain ⟨t, ht⟩ : ∃ t, m = t + n' := ⟨m - n', by omega⟩
    subst ht
    obtain ⟨bx, ox, rfl, hbx, hcx⟩ := rX (by omega)
    have sl1 : ((t + n' : Nat) : Int) - n' = (t : Int) := by omega
    have sl2 : ((t : Int) + 1) ≤ ((t + n' : Nat) : Int) := by omega
    have sl3 : ((t + n' : Nat) : Int) ≤ (c : Int) := by omega
    go_wp2_with fail
    have hdl : val ((dig X).drop (t + 1)) < Y := by
      have h7 := val_lt (AllB.drop (AllB.dig X) (t + 1))
      rw [List.length_drop, em] at h7
      have h8 := dig_ge (n := Y) (by omega)
      rw [en, show n' - 1 = t + n' - (t + 1) by omega] at h8
      exact Nat.lt_of_lt_of_le h7 h8
    refine (rmade_any false (some ⟨bx, ox + (t + 1), none⟩) (t + n' - (t + 1)) (c - (t + 1)) ((dig X).drop (t + 1)) w3 (by rw [List.length_drop, em])
      (fun _ => ⟨bx, ox + (t + 1), rfl, hbx, fun j hj => by rw [Nat.add_assoc, hcx _ (by omega), u32, u32, ix_drop]⟩) (AllB.drop (AllB.dig X) (t + 1)) (by omega) (by omega) (by intro e; cases e)).mono ?_
    rintro e w4 ⟨V4, rfl, hr4, hk4⟩
    obtain ⟨A4, m4, c4, rfl, hv4⟩ := hr4.open_
    rw [sgn_natAbs] at hv4
    have hfd := field_groups (.bool (decide (sgn false (val ((dig X).drop (t + 1))) < 0))) (.slice A4 m4 c4)
    have hmk := make_u32 ((t : Int) + 1) (t + 1) (by omega) (by omega)
    have hown := Own.new w4 51 (u32s (List.replicate (t + 1) 0))
    have hkc : Keeps w4 (w4.alloc (.cells (u32s (List.replicate (t + 1) 0)).toArray 51)) := box2 _ _
    have htn : t + n' ≤ 900001 := by omega
    have hwk := hw3.trans' hk4
    have HEM := Lib.hid em
    have HEN := Lib.hid en
    have HYL := Lib.hid hYl
    have HDL := Lib.hid hdl
    have HPE := Lib.hid hpe
    have HY0 := Lib.hid hY0
    have HF1 := Lib.hid hf1
    have hXc := fun W (hk : Keeps w4 W) (j : Nat) (hj : j < t + n') => (((bcell (hk4.trans' hk)).1 bx (ox + j) hbx).trans (hcx j hj))
    have HXC := Lib.hid hXc
    have hY4 := hY3.below hk4
    have rY4 := rY.below hk4
    obtain ⟨bY, oY, rfl, hbY, hcY⟩ := rY4 (by omega)
    have hYc := fun W (hk : Keeps w4 W) => ((bcell hk).1 bY (oY + (n' - 1)) hbY).trans (hcY (n' - 1) (by omega))
    have HYC := Lib.hid hYc
    clear hdl hpe hY0 em en hYl hXc hYc hcY hcx hX3 hY3 rX rY rY4 h1 h2 hw3 hXl hYXl sl1 sl2 sl3 hk4 hr4
    go_wp2
    clear hmk hfd
    go_loopw [10, 12, 13] (fun r i _ wr => ∃ (k rr : Nat) (out : List Nat), k ≤ t + 1 ∧ i = .int .i64 ((t : Int) - (k : Nat)) ∧ U32 wr r (dig rr) ∧ rr = val ((dig X).drop (t + 1 - k)) % Y ∧ out.length = t + 1 ∧ AllB out ∧
        val (out.drop (t + 1 - k)) = val ((dig X).drop (t + 1 - k)) / Y ∧ Own wr w4.heap.size 51 (u32s out) ∧ Keeps w4 wr)
      (fun _ i _ _ => (intOf i + 1).toNat)
    case atStart => exact ⟨0, val ((dig X).drop (t + 1)), List.replicate (t + 1) 0, by omega, by go_num, hv4.below hkc, by rw [Nat.sub_zero, Nat.mod_eq_of_lt HDL.out], by simp, AllB.replicate _, by rw [Nat.sub_zero, List.drop_of_length_le (by simp), Nat.div_eq_of_lt HDL.out]; rfl, hown, hkc⟩
    case round =>
      obtain ⟨k, rr, out, hkN, rfl, hrest, hrr, hol, hob, hval, hown1, hk1⟩ := hrel
      by_cases hlt : k < t + 1
      · obtain ⟨q, hq⟩ : ∃ q, t - k = q := ⟨_, rfl⟩
        rw [show t + 1 - k = q + 1 by omega] at hrr hval
        have e : (t : Int) - (k : Int) = (q : Int) := by omega
        rw [e]
        clear e
        have hrY : rr < Y := by rw [hrr]; exact Nat.mod_lt _ HY0.out
        have hps := fun w g => part_step (xs := dig X) (q := out) (t := q) (w := w) (g := g) HY0.out (by rw [HEM.out]; omega) (by rw [hol]; omega) hrr hval
        have hxb := (AllB.dig X).ix q
        have hcell : wr.cell? ⟨bx, ox + q, none⟩ = some (.int .u32 (ix (dig X) q : Nat)) := HXC.out wr hk1 q (by omega)
        generalize ix (dig X) q = x at *
        have q1 : (q : Int) < ((t + n' : Nat) : Int) := by omega
        have q2 : (q : Int) < (t : Int) + 1 := by omega
        have HPS := Lib.hid hps
        have HL := Lib.hid hol
        have HQ := Lib.hid hq
        have HOB := Lib.hid hob
        clear hps hol hq hrr hval hob
        have hrl : (dig rr).length ≤ 900001 := by have := dig_length_mono (Nat.le_of_lt hrY); have := HYL.out; omega
        go_wp2_with fail
        refine (rshifted_any _ rr x wr hrest (by omega) hxb).mono ?_
        rintro e w5 ⟨r5, rfl, hr5, hk5⟩
        have hk15 := hk1.trans' hk5
        have hown5 := hown1.below hk5
        obtain ⟨v, hv⟩ : ∃ v, rr * 1000000000 + x = v := ⟨_, rfl⟩
        rw [hv] at hr5
        have hvY : v < Y * 1000000000 := by omega
        have hYn : Y < 1000000000 ^ n' := by have := dig_lt Y; rwa [HYL.out] at this
        have hvn : v < 1000000000 ^ (n' + 1) := by
          refine Nat.lt_trans hvY ?_
          rw [Nat.pow_succ]
          exact Nat.mul_lt_mul_of_pos_right hYn (by omega)
        have hvl : (dig v).length ≤ 900002 := by have := dig_length_le hvn; omega
        have hg2 := two_groups (n := n') (by omega) hvn
        have hg1 := one_group (n := n') (by omega) hYn
        have hgl := guess_le (w := v) (y := Y) (P := 1000000000 ^ (n' - 1)) (Nat.pow_pos (by omega))
        rw [← hg2, ← hg1] at hgl
        have hu0 := (AllB.dig v).ix n'
        have hu1 := (AllB.dig v).ix (n' - 1)
        have hyb := (AllB.dig Y).ix (n' - 1)
        have hYcell := HYC.out w5 hk15
        rw [u32] at hYcell
        have hG0 := fun (nq : Nat) (z : Int) (ez : z = (n' : Nat)) => group_z _ (dig v) n' z (w5.drewN nq) ez (hr5.drewN nq) (AllB.dig v) (by omega) (by omega)
        have hG1 := fun (nq : Nat) (z : Int) (ez : z = ((n' - 1 : Nat) : Nat)) => group_z _ (dig v) (n' - 1) z (w5.drewN nq) ez (hr5.drewN nq) (AllB.dig v) (by omega) (by omega)
        generalize hue0 : ix (dig v) n' = u0 at *
        generalize hue1 : ix (dig v) (n' - 1) = u1 at *
        generalize hye : ix (dig Y) (n' - 1) = y1 at *
        have hgq : (u0 * 1000000000 + u1) / (y1 + 1) < 1000000000 := guess_lt hgl hvY
        obtain ⟨G, hG⟩ : ∃ G, (u0 * 1000000000 + u1) / (y1 + 1) = G := ⟨_, rfl⟩
        rw [hG] at hgl hgq
        have HG0 := Lib.hid hG0
        have HG1 := Lib.hid hG1
        have HGE := Lib.hid hG
        have HGL := Lib.hid hgl
        have HV := Lib.hid hv
        have HVY := Lib.hid hvY
        have hI0 : (u0 : Int) < 1000000000 := by omega
        have hI1 : (u1 : Int) < 1000000000 := by omega
        have hIy : (y1 : Int) < 1000000000 := by omega
        have hIG : (G : Int) < 1000000000 := by omega
        have e1 : (n' : Int) - 1 = ((n' - 1 : Nat) : Int) := by omega
        have g1 : IntKind.i64.wrap ((n' - 1 : Nat) : Int) = ((n' - 1 : Nat) : Int) := IntWalk.i64_in _ (by omega)
        have b0 : (0 : Int) ≤ ((n' - 1 : Nat) : Int) := by omega
        have b1 : ((n' - 1 : Nat) : Int) < (n' : Int) := by omega
        have g2 : IntKind.u64.wrap ((u0 : Int) * 1000000000) = (u0 : Int) * 1000000000 := IntWalk.u64_in _ (by omega)
        have g3 : IntKind.u64.wrap ((u0 : Int) * 1000000000 + (u1 : Int)) = (u0 : Int) * 1000000000 + (u1 : Int) := IntWalk.u64_in _ (by omega)
        have g4 : IntKind.u64.wrap (y1 : Int) = (y1 : Int) := IntWalk.u64_in _ (by omega)
        have g5 : IntKind.u64.wrap ((y1 : Int) + 1) = (y1 : Int) + 1 := IntWalk.u64_in _ (by omega)
        have t1 : (((u0 : Int) * 1000000000 + (u1 : Int)).tdiv ((y1 : Int) + 1)) = (G : Int) := by rw [← hG, Int.natCast_ediv, Int.natCast_add, Int.natCast_mul]; exact Int.tdiv_eq_ediv_of_nonneg (by omega)
        have g6 : IntKind.u64.wrap (G : Int) = (G : Int) := IntWalk.u64_in _ (by omega)
        clear hG0 hG1 hG hgl hv hvY hg1 hg2 hvn hYn hue0 hue1 hye q1
        go_wp2_with fail
        go_quiet ((first | (go_at_call 128; exact Calls.quiet_of_same (HG0.out _ _ rfl)) | (go_at_call 128; exact Calls.quiet_of_same (HG1.out _ _ rfl))))
        rw [← e1]
        clear HG0 HG1 e1 g1 b0 b1 g2 g3 g4 g5 t1 g6 hI0 hI1 hIy
        have hr6 := hr5.drewN nq
        have hk6 := hk15.drewN nq
        have hown6 := hown5.drewN nq
        obtain ⟨W6, hW6⟩ : ∃ W, w5.drewN nq = W := ⟨_, rfl⟩
        rw [hW6] at hr6 hk6 hown6 ⊢
        clear hW6
        have hY6 := hY4.below hk6
        go_wp2_with fail
        refine (rscaled_d _ Y G W6 hY6 (by rw [HYL.out]; omega) hgq).mono ?_
        rintro e w7 ⟨p7, rfl, hp7, hk7⟩
        go_wp2_with fail
        refine (rminus_dn r5 p7 v (Y * G) w7 (hr6.below hk7) hp7 (by omega) (by rw [Nat.mul_comm]; exact HGL.out)).mono ?_
        rintro e w8 ⟨r8, rfl, hr8, hn8, hk8⟩
        have hk9 := (hk6.trans' hk7).trans' hk8
        have hown7 := hown6.below hk7
        have hown9 := hown7.below hk8
        go_wp2_with fail
        go_loopw [10, 13] (fun r gv wi => ∃ g : Nat, gv = .int .u64 (g : Nat) ∧ g * Y ≤ v ∧ U32 wi r (dig (v - g * Y)) ∧ (∃ w0 : World, w4.heap.size < w0.heap.size ∧ NewV w0 r) ∧ Own wi w4.heap.size 51 (u32s out) ∧ Keeps w4 wi)
          (fun _ gv _ => 1000000000 - (intOf gv).toNat)
        case atStart => exact ⟨G, rfl, HGL.out, by rw [Nat.mul_comm]; exact hr8, ⟨w7, hown7.lt, hn8⟩, hown9, hk9⟩
        case round =>
          obtain ⟨g, rfl, hgY, hri, ⟨w0, hw0, hn0⟩, howni, hki⟩ := hrel
          have hgB := guess_lt hgY HVY.out
          have hgI : (g : Int) < 1000000000 := by omega
          have HGY := Lib.hid hgY
          obtain ⟨sg, hsg⟩ : ∃ sg, (((v - g * Y : Nat) : Int) - (Y : Nat)).sign = sg := ⟨_, rfl⟩
          have hLs := lt_sign (v - g * Y) Y
          rw [hsg] at hLs
          have hvl2 := dig_length_mono (Nat.sub_le v (g * Y))
          have hYi := hY4.below hki
          have hsz := size_any _ _ _ _ wr hri hYi (by omega) (by rw [HYL.out]; omega)
          rw [hsg] at hsz
          have HSZ := Lib.hid hsz
          clear hsz hsg hgY
          rcases hLs with ⟨hLs, hs2⟩ | ⟨hLs, hs2⟩
          · have hd2 : decide ((0 : Int) ≤ sg) = false := decide_eq_false (by omega)
            have HLS := Lib.hid hLs
            clear hLs
            go_wp2_with fail
            refine HSZ.out.mono ?_
            rintro e w10 ⟨rfl, hk10⟩
            have hown10 := howni.below hk10
            have hc0 := hown10.u32cell (i := q) (by rw [HL.out]; omega)
            have hf0 := hown10.frozen q
            have hgd := guess_done HGY.out HLS.out
            have HGD := Lib.hid hgd
            clear hgd
            go_wp2
            go_roundw
            case rel =>
              have hps := HPS.out v g HV.out.symm HGD.out.1
              have hr10 := hri.below hk10
              trace_state
              exact ⟨k + 1, v % Y, out.set q g, by omega, by have := HQ.out; congr 1; omega, by rw [← HGD.out.2]; exact hr10.putNew hn0 hw0 _ _, by rw [show t + 1 - (k + 1) = q by have := HQ.out; omega]; exact hps.2, by rw [List.length_set]; exact HL.out,
                HOB.out.set _ _ hgB, by rw [show t + 1 - (k + 1) = q by have := HQ.out; omega]; exact hps.1, hown10.put q g rfl, (hki.trans' hk10).set (Nat.le_refl _) _⟩
            case measure => have := HQ.out; simp [intOf]
          · have hd2 : decide ((0 : Int) ≤ sg) = true := decide_eq_true (by omega)
            have hnext : (g + 1) * Y ≤ v := by have := HGY.out; rw [Nat.add_mul]; omega
            have hsub : v - g * Y - Y = v - (g + 1) * Y := by rw [Nat.add_mul]; omega
            have HLS := Lib.hid hLs
            have HNX := Lib.hid hnext
            have HSB := Lib.hid hsub
            clear hLs hnext hsub
            go_wp2_with fail
            refine HSZ.out.mono ?_
            rintro e w10 ⟨rfl, hk10⟩
            go_wp2_with fail
            refine (rminus_dn _ _ _ Y w10 (hri.below hk10) (hYi.below hk10) (by omega) HLS.out).mono ?_
            rintro e w11 ⟨r11, rfl, hr11, hn11, hk11⟩
            rw [HSB.out] at hr11
            go_wp2
            go_roundw
            case rel => exact ⟨g + 1, by go_num, HNX.out, hr11, ⟨w10, (howni.below hk10).lt, hn11⟩, (howni.below hk10).below hk11, (hki.trans' hk10).trans' hk11⟩
            case measure => simp [intOf]; omega
      · obtain rfl : k = t + 1 := by omega
        rw [show (t : Int) - ((t + 1 : Nat) : Int) = -1 by omega]
        rw [Nat.sub_self, List.drop_zero, val_dig] at hrr
        rw [Nat.sub_self, List.drop_zero, List.drop_zero, val_dig] at hval
        have hpe := HPE.out
        have hrf : rr / f = a % b := by rw [hrr]; exact hpe.2
        have hvq : val out = a / b := by rw [hval]; exact hpe.1
        have hrY : rr < Y := by rw [hrr]; exact Nat.mod_lt _ HY0.out
        have hrl : (dig rr).length ≤ 900001 := by have := dig_length_mono (Nat.le_of_lt hrY); have := HYL.out; omega
        have HRF := Lib.hid hrf
        have HVQ := Lib.hid hvq
        have HL := Lib.hid hol
        clear hrr hval hpe hrf hvq hol hrY
        go_wp2_with fail
        refine (rshort_any _ rr f wr hrest (by omega) (by omega) (by omega)).mono ?_
        rintro e w5 ⟨r5, rfl, hr5, hk5⟩
        have hown5 := hown1.below hk5
        rw [HRF.out] at hr5
        go_wp2_with fail
        refine (rmade_u false (.slice (some ⟨w4.heap.size, 0, none⟩) (t + 1) (t + 1)) out w5 (by rw [← HL.out]; exact U32.mk hown5.row (Nat.le_refl _) (by rw [HL.out]; simp only [maxLen]; omega) (by intro e; cases e)) hob (by rw [HL.out]; omega)).mono ?_
        rintro e w6 ⟨V6, rfl, hr6, hk6⟩
        obtain ⟨A6, m6, c6, rfl, hv6⟩ := hr6.open_
        rw [sgn_natAbs, HVQ.out] at hv6
        have hfd6 := field_groups (.bool (decide (sgn false (val out) < 0))) (.slice A6 m6 c6)
        go_wp2
        go_ret2
        exact ⟨_, _, rfl, hv6, hr5.below hk6, ((hwk.trans' hk1).trans' hk5).trans' hk6⟩
end Go.Proofs.YtomjnjpehokjbaaGreatDoor

namespace Go.Proofs.YtomjnjpehokjbaaGreatDoor
open Go.RowKit Go.Shelf

theorem two_u32 (w : World) (t : TypeId) (x y : Nat) : U32 (w.alloc (.cells #[.int .u32 (x : Nat), .int .u32 (y : Nat)] t)) (.slice (some ⟨w.heap.size, 0, none⟩) 2 2) [x, y] :=
  U32.mk (xs := [x, y]) (Own.row (xs := [x, y]) (Own.new w t (u32s [x, y]))) (Nat.le_refl _) (by simp [maxLen]) (by intro e; cases e)
theorem val_two {xs : List Nat} (h : xs.length ≤ 2) : ix xs 1 * 1000000000 + ix xs 0 = val xs := by
  match xs, h with
  | [], _ => simp [ix, val]
  | [x], _ => simp [ix, val]
  | [x, y], _ => simp [ix, val]; omega
set_option maxRecDepth 100000 in
set_option maxHeartbeats 400000 in
theorem pair_any (v : Value) (m : Nat) (w : World) (h : U32 w v (dig m)) (hm : (dig m).length ≤ 2) :
    Calls Tryz.prog 106 #[v] w fun e w' => e = .returned (.int .u64 (m : Nat)) ∧ w = w' := by
  have hv := val_two hm
  rw [val_dig] at hv
  have h0 := (AllB.dig m).ix 0
  have h1 := (AllB.dig m).ix 1
  have hG1 := Lib.hid (group_any v (dig m) 1 w h (AllB.dig m) (by omega) (by omega))
  have hG0 := Lib.hid (group_any v (dig m) 0 w h (AllB.dig m) (by omega) (by omega))
  generalize ix (dig m) 0 = x0 at *
  generalize ix (dig m) 1 = x1 at *
  have e1 : (x1 : Int) < 1000000000 := by omega
  have e0 : (x0 : Int) < 1000000000 := by omega
  have HV := Lib.hid hv
  clear hv
  go_enter Tryz.func106, Tryz.ntmps106
  go_wp2_with fail
  refine hG1.out.mono ?_
  rintro e w1 ⟨rfl, rfl⟩
  go_wp2_with fail
  refine hG0.out.mono ?_
  rintro e w2 ⟨rfl, rfl⟩
  go_wp2
  go_ret
  exact ⟨ret_int (by have := HV.out; omega), rfl⟩

set_option maxRecDepth 100000 in
set_option maxHeartbeats 1000000 in
theorem rgcd_any (n1 n2 : Bool) (xs ys : List Nat) (V1 V2 : Value) (w : World) (h1 : IntArg w V1 n1 xs) (h2 : IntArg w V2 n2 ys) (hm1 : xs.length ≤ 900000) (hm2 : ys.length ≤ 900000) :
    Calls Tryz.prog 81 #[V1, V2] w fun e w' => ∃ V, e = .returned V ∧ IntRep w' V ((Nat.gcd (mag n1 xs) (mag n2 ys) : Nat) : Int) ∧ Keeps w w' := by
  obtain ⟨v1, rfl, hv1⟩ := h1
  obtain ⟨v2, rfl, hv2⟩ := h2
  have hml1 := mag_length n1 xs
  have hml2 := mag_length n2 ys
  have hkk := keep3 w (.cells #[.bool n1, v1] 27) (.cells #[.bool n2, v2] 27) (.cells #[.bool false, .slice none 0 0] 27)
  have hG1 := Lib.hid (fun W (hW : IntArg W (.agg #[.bool n1, v1]) n1 xs) => rvalue_any n1 xs (.agg #[.bool n1, v1]) W hW (by omega))
  have hG2 := Lib.hid (fun W (hW : IntArg W (.agg #[.bool n2, v2]) n2 ys) => rvalue_any n2 ys (.agg #[.bool n2, v2]) W hW (by omega))
  have hR := own3 w (.cells #[.bool n1, v1] 27) (.cells #[.bool n2, v2] 27) 27 [.bool false, .slice none 0 0]
  have hB := (own2 w (.cells #[.bool n1, v1] 27) 27 [.bool n2, v2]).alloc (.cells #[.bool false, .slice none 0 0] 27)
  have hA := ((Own.new w 27 [.bool n1, v1]).alloc (.cells #[.bool n2, v2] 27)).alloc (.cells #[.bool false, .slice none 0 0] 27)
  have ea := cnt_abs n1 xs
  have eb := cnt_abs n2 ys
  generalize mag n1 xs = a at *
  generalize mag n2 ys = b at *
  obtain ⟨g, hg⟩ : ∃ g, Nat.gcd a b = g := ⟨_, rfl⟩
  rw [hg]
  have HG := Lib.hid hg
  have EA := Lib.hid ea
  have EB := Lib.hid eb
  have hfd : ∀ (x y : Value) (w : World), (Instr.field 27 (.agg #[x, y]) 1).run Tryz.prog w = .ok y w := field_groups
  clear hg ea eb
  go_enter Tryz.func81, Tryz.ntmps81
  go_wp2_with fail
  have g1 := hv1.below hkk
  have g2 := hv2.below hkk
  generalize ((w.alloc (.cells #[.bool n1, v1] 27)).alloc (.cells #[.bool n2, v2] 27)).alloc (.cells #[.bool false, .slice none 0 0] 27) = W at *
  replace hA := hA.drew
  replace hB := hB.drew
  replace hR := hR.drew
  replace g1 := g1.drew
  replace g2 := g2.drew
  replace hkk : Keeps w W.drew := Below.drew hkk
  go_region_held3 (fun w' => w'.cell? ⟨w.heap.size, 0, none⟩ = some (.bool n1) ∧ w'.cell? ⟨w.heap.size, 1, none⟩ = some v1 ∧ w'.cell? ⟨w.heap.size + 1, 0, none⟩ = some (.bool n2) ∧ w'.cell? ⟨w.heap.size + 1, 1, none⟩ = some v2)
    (exact ⟨hA.c0, hA.c1, hB.c0, hB.c1⟩)
    (first
      | (go_at_call_of 72 (Value.agg #[Value.bool n1, v1]); refine (hG1.out _ ⟨v1, rfl, g1⟩).mono ?_; rintro e w1 ⟨u1, rfl, hr1, hk⟩; obtain ⟨A1, m1, c1, rfl, hu1⟩ := hr1.open_; replace hA := hA.below hk; replace hB := hB.below hk; replace hR := hR.below hk; replace g2 := g2.below hk; replace hkk := hkk.trans' hk)
      | (go_at_call 72; refine (hG2.out _ ⟨v2, rfl, g2⟩).mono ?_; rintro e w2 ⟨u2, rfl, hr2, hk⟩; obtain ⟨A2, m2, c2, rfl, hu2⟩ := hr2.open_; replace hA := hA.below hk; replace hB := hB.below hk; replace hR := hR.below hk; replace hu1 := hu1.below hk; replace hkk := hkk.trans' hk))
  rw [EA.out] at hu1
  rw [EB.out] at hu2
  clear g1 g2 hG1 hG2 hA hB hk hv1 hv2 hr1 hr2 hfd
  generalize Value.slice A1 m1 c1 = u1 at *
  generalize Value.slice A2 m2 c2 = u2 at *
  go_wp2_with fail
  go_loopg [5, 6] b (fun k u v wr => ∃ A B : Nat, B = k ∧ Nat.gcd A B = g ∧ (dig A).length ≤ 900000 ∧ (dig B).length ≤ 900000 ∧ U32 wr u (dig A) ∧ U32 wr v (dig B) ∧ Own wr (w.heap.size + 1 + 1) 27 [.bool false, .slice none 0 0] ∧ Keeps w wr)
  case atStart => exact ⟨a, b, rfl, HG.out, by omega, by omega, hu1, hu2, hR, hkk⟩
  case round =>
    clear hu1 hu2 hR hkk
    obtain ⟨A, B, rfl, hg, hlA, hlB, hu1, hu2, hR1, hk1⟩ := hrel
    obtain ⟨A1, m1, c1, rfl, e1, -, -, -, -⟩ := hu1.open_
    obtain ⟨A2, m2, c2, rfl, e2, -, -, -, -⟩ := hu2.open_
    have HG2 := Lib.hid hg
    have HE1 := Lib.hid e1
    have HE2 := Lib.hid e2
    clear hg
    by_cases hB : B = 0
    · subst hB
      obtain rfl : m2 = 0 := by rw [dig_zero] at e2; simpa using e2.symm
      have hag : A = g := by have := HG2.out; rwa [Nat.gcd_zero_right] at this
      subst hag
      clear e1 e2
      go_wp2_with fail
      refine (rmade_d false _ A _ hu1 (by omega)).mono ?_
      rintro e w5 ⟨V9, rfl, hr9, hk5⟩
      have hR9 := hR1.below hk5
      have hk9 := hk1.trans' hk5
      obtain ⟨g, rfl⟩ : ∃ g, g = A := ⟨_, rfl⟩
      obtain ⟨A9, n9, c9, rfl, -⟩ := hr9.open_
      rw [show sgn false g = (g : Int) from rfl] at hr9
      have hd9 : decide (sgn false g < 0) = false := decide_eq_false (by simp [sgn])
      rw [hd9]
      clear hd9
      have r0 := hR9.c0
      have r1 := hR9.c1
      have f0 := hR9.frozen 0
      have f1 := hR9.frozen 1
      have hdg : decide ((g : Int) < 0) = false := decide_eq_false (by omega)
      rw [hdg] at hr9
      clear hdg
      go_wp2
      have hR4 := hR9.two (.bool false) (.slice A9 n9 c9)
      refine bodyPost_ret (v := .agg #[.bool false, .slice A9 n9 c9]) (by simp [results, Tryz.results81, go_sem, hR4.c0, hR4.c1]) rfl ?_
      exact ⟨_, rfl, hr9.two hR9 rfl rfl rfl, (hk9.set (by simp only; omega) _).set (by simp only; omega) _⟩
    · have hm2p : 0 < m2 := by have := dig_length_pos.2 hB; omega
      have HB := Lib.hid hB
      clear e1 e2 hB
      by_cases hs1 : 2 < m1
      · have hd1 : decide ((2 : Int) < m1) = true := decide_eq_true (by omega)
        go_wp2_with fail
        refine (rparts_any _ _ A B _ hu1 hu2 hlA hlB HB.out).mono ?_
        rintro e w4 ⟨q4, r4, rfl, -, hr4, hk4⟩
        go_wp2
        go_roundg (A % B)
        case measure => exact Nat.mod_lt _ (Nat.pos_of_ne_zero HB.out)
        case rel => exact ⟨B, A % B, rfl, (gcd_step A B).trans HG2.out, hlB, Nat.le_trans (dig_length_mono (Nat.le_of_lt (Nat.mod_lt A (Nat.pos_of_ne_zero HB.out)))) hlB, hu2.below hk4, hr4, hR1.below hk4, hk1.trans' hk4⟩
      · have hd1 : decide ((2 : Int) < m1) = false := decide_eq_false (by omega)
        by_cases hs2 : 2 < m2
        · have hd2 : decide ((2 : Int) < m2) = true := decide_eq_true (by omega)
          go_wp2_with fail
          refine (rparts_any _ _ A B _ hu1 hu2 hlA hlB HB.out).mono ?_
          rintro e w4 ⟨q4, r4, rfl, -, hr4, hk4⟩
          go_wp2
          go_roundg (A % B)
          case measure => exact Nat.mod_lt _ (Nat.pos_of_ne_zero HB.out)
          case rel => exact ⟨B, A % B, rfl, (gcd_step A B).trans HG2.out, hlB, Nat.le_trans (dig_length_mono (Nat.le_of_lt (Nat.mod_lt A (Nat.pos_of_ne_zero HB.out)))) hlB, hu2.below hk4, hr4, hR1.below hk4, hk1.trans' hk4⟩
        · have hd2 : decide ((2 : Int) < m2) = false := decide_eq_false (by omega)
          have hm0 : ((m2 : Int) == 0) = false := by rw [beq_eq_false_iff_ne]; omega
          have hlA2 : A < 1000000000000000000 := by have := dig_lt A; rw [HE1.out] at this; exact Nat.lt_of_lt_of_le this (Nat.pow_le_pow_right (n := 1000000000) (by omega) (show m1 ≤ 2 by omega))
          have hlB2 : B < 1000000000000000000 := by have := dig_lt B; rw [HE2.out] at this; exact Nat.lt_of_lt_of_le this (Nat.pow_le_pow_right (n := 1000000000) (by omega) (show m2 ≤ 2 by omega))
          have hP1 := Lib.hid (pair_any _ A wr hu1 (by have := HE1.out; omega))
          have hP2 := Lib.hid (pair_any _ B wr hu2 (by have := HE2.out; omega))
          have LA := Lib.hid hlA2
          have LB := Lib.hid hlB2
          clear hlA2 hlB2
          go_wp2_with fail
          refine hP1.out.mono ?_
          rintro e w3 ⟨rfl, rfl⟩
          go_wp2_with fail
          refine hP2.out.mono ?_
          rintro e w3 ⟨rfl, rfl⟩
          go_wp2_with fail
          clear hP1 hP2
          go_loopw [9, 10] (fun x y wi => ∃ m n : Nat, x = .int .u64 (m : Nat) ∧ y = .int .u64 (n : Nat) ∧ m < 1000000000000000000 ∧ n < 1000000000000000000 ∧ Nat.gcd m n = g ∧ Own wi (w.heap.size + 1 + 1) 27 [.bool false, .slice none 0 0] ∧ Keeps w wi)
            (fun _ y _ => (intOf y).toNat)
          case atStart => exact ⟨A, B, rfl, rfl, LA.out, LB.out, HG2.out, hR1, hk1⟩
          case round =>
            obtain ⟨m, n, rfl, rfl, hm, hn, hgm, hR3, kw3⟩ := hrel
            have HGM := Lib.hid hgm
            clear hgm
            by_cases hn0 : n = 0
            · subst hn0
              have hmg : m = g := by have := HGM.out; rwa [Nat.gcd_zero_right] at this
              subst hmg
              have hq1 : (m : Int) / 1000000000 < 1000000000 := by omega
              go_wp2_with fail
              refine (rmade_u false (.slice (some ⟨wr.heap.size, 0, none⟩) 2 2) [m % 1000000000, m / 1000000000] _ (by simpa using two_u32 wr 51 (m % 1000000000) (m / 1000000000)) (AllB.cons (by omega) (AllB.single (by omega))) (by simp)).mono ?_
              rintro e w6 ⟨V9, rfl, hr9, hk6⟩
              rw [show val [m % 1000000000, m / 1000000000] = m by simp [val]; omega] at hr9
              have hk6' : Keeps wr w6 := (box2 _ _).trans' hk6
              have hR9 := hR3.below hk6'
              have hk9 := kw3.trans' hk6'
              obtain ⟨g, rfl⟩ : ∃ g, g = m := ⟨_, rfl⟩
              obtain ⟨A9, n9, c9, rfl, -⟩ := hr9.open_
              rw [show sgn false g = (g : Int) from rfl] at hr9
              have hd9 : decide (sgn false g < 0) = false := decide_eq_false (by simp [sgn])
              rw [hd9]
              clear hd9
              have r0 := hR9.c0
              have r1 := hR9.c1
              have f0 := hR9.frozen 0
              have f1 := hR9.frozen 1
              have hdg : decide ((g : Int) < 0) = false := decide_eq_false (by omega)
              rw [hdg] at hr9
              clear hdg
              go_wp2
              have hR4 := hR9.two (.bool false) (.slice A9 n9 c9)
              refine bodyPost_ret (v := .agg #[.bool false, .slice A9 n9 c9]) (by simp [results, Tryz.results81, go_sem, hR4.c0, hR4.c1]) rfl ?_
              exact ⟨_, rfl, hr9.two hR9 rfl rfl rfl, (hk9.set (by simp only; omega) _).set (by simp only; omega) _⟩
            · have hnp : 0 < n := Nat.pos_of_ne_zero hn0
              have hnI : (0 : Int) < n := by omega
              have hlt := Nat.mod_lt m hnp
              have t2 : ((m : Int).tmod (n : Int)) = ((m % n : Nat) : Int) := by rw [Int.natCast_emod]; exact IntWalk.rem_in _ _ (by omega)
              obtain ⟨R, hRR⟩ : ∃ R, m % n = R := ⟨_, rfl⟩
              rw [hRR] at t2 hlt
              have g5 : IntKind.u64.wrap (R : Int) = (R : Int) := IntWalk.u64_in _ (by omega)
              have HR := Lib.hid hRR
              clear hRR
              go_wp2
              go_quiet (fail)
              go_wp2
              go_roundw
              case rel => exact ⟨n, R, rfl, rfl, hn, by omega, by rw [← HR.out]; exact (gcd_step m n).trans HGM.out, hR3.drewN _, below_drewN kw3 _⟩
              case measure => simp [intOf]; omega
end Go.Proofs.YtomjnjpehokjbaaGreatDoor

namespace Go.Proofs.YtomjnjpehokjbaaGreatDoor
open Go.RowKit Go.Shelf

/-- the quotient towards minus infinity, and what is left; nothing where the divisor is 0 -/
def divQ (x y : Int) : Int := if y = 0 then 0 else x.fdiv y
def divR (x y : Int) : Int := if y = 0 then 0 else x.fmod y
def divC (y : Int) : Int := if y = 0 then 14 else 0
theorem fdiv_pos {x q r b : Int} (hb : 0 < b) (e : r + b * q = x) (h0 : 0 ≤ r) (h1 : r < b) : x.fdiv b = q ∧ x.fmod b = r := by
  rw [Int.fdiv_eq_ediv_of_nonneg _ (by omega), Int.fmod_eq_emod_of_nonneg _ (by omega)]
  exact (Int.ediv_emod_unique hb).2 ⟨e, h0, h1⟩
theorem fdiv_neg' {x q r b : Int} (hb : 0 < b) (e : r + b * q = -x) (h0 : 0 ≤ r) (h1 : r < b) : x.fdiv (-b) = q ∧ x.fmod (-b) = -r := by
  have h := fdiv_pos hb e h0 h1
  have h2 := Int.neg_fdiv_neg x (-b)
  have h3 := Int.neg_fmod_neg x (-b)
  rw [Int.neg_neg] at h2 h3
  rw [h.1] at h2
  rw [h.2] at h3
  exact ⟨h2.symm, by omega⟩
/-- the code's arithmetic is the floor's -/
theorem divide_sgn (n1 n2 : Bool) (a b : Nat) (hb : b ≠ 0) :
    (sgn n1 a).fdiv (sgn n2 b) = sgn (n1 != n2) (if a % b ≠ 0 ∧ n1 ≠ n2 then a / b + 1 else a / b) ∧ (sgn n1 a).fmod (sgn n2 b) = sgn n2 (if a % b ≠ 0 ∧ n1 ≠ n2 then b - a % b else a % b) := by
  have hd := Nat.div_add_mod a b
  have hm := Nat.mod_lt a (show 0 < b by omega)
  obtain ⟨q, hq⟩ : ∃ q, a / b = q := ⟨_, rfl⟩
  obtain ⟨r, hr⟩ : ∃ r, a % b = r := ⟨_, rfl⟩
  rw [hq, hr] at hd
  rw [hr] at hm
  rw [hq, hr]
  have hI : (b : Int) * q + r = a := by rw [← hd]; push_cast; rfl
  have hb0 : (0 : Int) < b := by omega
  cases n1 <;> cases n2
  · rw [if_neg (by simp), if_neg (by simp)]
    have := fdiv_pos (x := (a : Int)) (q := (q : Int)) (r := (r : Int)) hb0 (by omega) (by omega) (by omega)
    simpa [sgn] using this
  · by_cases h0 : r = 0
    · subst h0
      rw [if_neg (by simp), if_neg (by simp)]
      have := fdiv_neg' (x := (a : Int)) (q := -(q : Int)) (r := 0) hb0 (by rw [Int.mul_neg]; omega) (by omega) hb0
      simpa [sgn] using this
    · rw [if_pos ⟨h0, by simp⟩, if_pos ⟨h0, by simp⟩]
      have := fdiv_neg' (x := (a : Int)) (q := -((q : Int) + 1)) (r := (b : Int) - r) hb0 (by rw [Int.mul_neg, Int.mul_add]; omega) (by omega) (by omega)
      refine ⟨this.1.trans ?_, this.2.trans ?_⟩ <;> simp [sgn]
      omega
  · by_cases h0 : r = 0
    · subst h0
      rw [if_neg (by simp), if_neg (by simp)]
      have := fdiv_pos (x := -(a : Int)) (q := -(q : Int)) (r := 0) hb0 (by rw [Int.mul_neg]; omega) (by omega) hb0
      simpa [sgn] using this
    · rw [if_pos ⟨h0, by simp⟩, if_pos ⟨h0, by simp⟩]
      have := fdiv_pos (x := -(a : Int)) (q := -((q : Int) + 1)) (r := (b : Int) - r) hb0 (by rw [Int.mul_neg, Int.mul_add]; omega) (by omega) (by omega)
      refine ⟨this.1.trans ?_, this.2.trans ?_⟩ <;> simp [sgn]
      omega
  · rw [if_neg (by simp), if_neg (by simp)]
    have := fdiv_neg' (x := -(a : Int)) (q := (q : Int)) (r := (r : Int)) hb0 (by omega) (by omega) (by omega)
    simpa [sgn] using this

theorem made_z (neg : Bool) (v : Value) (m : Nat) (z : Int) (w : World) (h : U32 w v (dig m)) (e : sgn neg m = z) :
    Calls Tryz.prog 63 #[.bool neg, v] w fun e w' => ∃ V, e = .returned V ∧ IntRep w' V z ∧ Keeps w w' := by subst e; exact made_d neg v m w h
end Go.Proofs.YtomjnjpehokjbaaGreatDoor
