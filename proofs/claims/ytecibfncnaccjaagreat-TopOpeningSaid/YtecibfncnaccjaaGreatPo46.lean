/- The document's check of grids, contour.checkLevel, and whether all heights are near: the walks. -/
import Derived.Test.YtecibfncnaccjaaGreatPo29
namespace Go.Proofs.YtecibfncnaccjaaGreat
open Go.RowKit Go.Shelf
set_option maxRecDepth 100000 in
set_option maxHeartbeats 1000000 in
theorem lchecked_any {w : World} {A : Option Addr} {c : Nat} {zs : List Int} (hr : IRow w A zs) (gx gy st W H : Int) (hl : zs.length ≤ maxLen) :
 Calls Tryz.prog 27 #[grV gx gy st W H A zs.length c] w fun e w' => e = .returned (.int .i64 (chkG gx gy st W H zs)) ∧ Keeps w w' := by
 have S := (St.start w).alloc 24 (grL gx gy st W H A zs.length c)
 obtain ⟨W0, hW0, S⟩ := S.pack
 have HR := Lib.hid hr
 have hlI : (zs.length : Int) ≤ 9223372036854775807 := by simp only [maxLen] at hl; omega
 have h3 := fun u => law48_far u gx
 have h4 := fun u => law48_far u gy
 have HB : Hid (badG gx gy st W H = (!sideB W || !sideB H || decide (st < 2) || decide (65536 < st) || decide (st.tmod 2 ≠ 0) || farP gx || farP gy)) := Lib.hid rfl
 have HQ : Hid (chkG gx gy st W H zs = if badG gx gy st W H then 2 else if (zs.length : Int) ≠ W * H then 4 else if zs.any badZ then 2 else 0) := Lib.hid rfl
 obtain ⟨C, hC⟩ : ∃ C, chkG gx gy st W H zs = C := ⟨_, rfl⟩
 rw [hC] at HQ ⊢
 obtain ⟨b0, hb0⟩ : ∃ b, badG gx gy st W H = b := ⟨_, rfl⟩
 obtain ⟨b3, hb3⟩ : ∃ b, farP gx = b := ⟨_, rfl⟩
 obtain ⟨b4, hb4⟩ : ∃ b, farP gy = b := ⟨_, rfl⟩
 rw [hb0] at HB HQ
 rw [hb3] at h3 HB
 rw [hb4] at h4 HB
 have H3 := Lib.hid h3
 have H4 := Lib.hid h4
 clear h3 h4 hb0 hb3 hb4 hC hr hl
 obtain ⟨x0, x1, x2, x3, x4, x5⟩ := S.cc6 0 rfl
 go_enter Tryz.func27, Tryz.ntmps27
 by_cases s1 : W < 2
 ·have d1 : decide (W < 2) = true := decide_eq_true s1
  have HC : Hid (C = 2) := Lib.hid (by rw [HQ.out, HB.out]; simp [sideB]; omega)
  go_wp2
  go_ret
  exact ⟨by rw [HC.out]; rfl, S.k⟩
 by_cases s2 : 64 < W
 ·have d1 : decide (W < 2) = false := decide_eq_false s1
  have d2 : decide (64 < W) = true := decide_eq_true s2
  have HC : Hid (C = 2) := Lib.hid (by rw [HQ.out, HB.out]; simp [sideB]; omega)
  go_wp2
  go_ret
  exact ⟨by rw [HC.out]; rfl, S.k⟩
 by_cases s3 : H < 2
 ·have d1 : decide (W < 2) = false := decide_eq_false s1
  have d2 : decide (64 < W) = false := decide_eq_false s2
  have d3 : decide (H < 2) = true := decide_eq_true s3
  have HC : Hid (C = 2) := Lib.hid (by rw [HQ.out, HB.out]; simp [sideB]; omega)
  go_wp2
  go_ret
  exact ⟨by rw [HC.out]; rfl, S.k⟩
 have d1 : decide (W < 2) = false := decide_eq_false s1
 have d2 : decide (64 < W) = false := decide_eq_false s2
 have d3 : decide (H < 2) = false := decide_eq_false s3
 by_cases s4 : 64 < H
 ·have d4 : decide (64 < H) = true := decide_eq_true s4
  have HC : Hid (C = 2) := Lib.hid (by rw [HQ.out, HB.out]; simp [sideB]; omega)
  go_wp2
  go_ret
  exact ⟨by rw [HC.out]; rfl, S.k⟩
 have d4 : decide (64 < H) = false := decide_eq_false s4
 by_cases s5 : st < 2
 ·have d5 : decide (st < 2) = true := decide_eq_true s5
  have HC : Hid (C = 2) := Lib.hid (by rw [HQ.out, HB.out]; simp [sideB]; omega)
  go_wp2
  go_ret
  exact ⟨by rw [HC.out]; rfl, S.k⟩
 have d5 : decide (st < 2) = false := decide_eq_false s5
 by_cases s6 : 65536 < st
 ·have d6 : decide (65536 < st) = true := decide_eq_true s6
  have HC : Hid (C = 2) := Lib.hid (by rw [HQ.out, HB.out]; simp [sideB]; omega)
  go_wp2
  go_ret
  exact ⟨by rw [HC.out]; rfl, S.k⟩
 have d6 : decide (65536 < st) = false := decide_eq_false s6
 have te : st.tmod 2 = st % 2 := Int.tmod_eq_emod_of_nonneg (by omega)
 rw [te] at HB
 clear te
 by_cases s7 : st % 2 = 0
 case neg =>
  have HC : Hid (C = 2) := Lib.hid (by rw [HQ.out, HB.out]; simp [s7])
  have d7 : (st % 2 != 0) = true := by simp [s7]
  have d7' : (st % 2 == 0) = false := by simp [s7]
  go_wp2
  go_ret
  exact ⟨by rw [HC.out]; rfl, S.k⟩
 have d7 : (st % 2 != 0) = false := by simp [s7]
 have d7' : (st % 2 == 0) = true := by simp [s7]
 have HB' : Hid (b0 = (b3 || b4)) := Lib.hid (by
  rw [HB.out, show sideB W = true by unfold sideB; simp; omega, show sideB H = true by unfold sideB; simp; omega, d5, d6]
  simp [s7])
 go_wp2_with fail
 refine (H3.out _).mono ?_
 rintro e w3 ⟨rfl, hk⟩
 clear x0 x1 x2 x3 x4 x5
 replace S := S.below hk
 clear hk
 obtain ⟨x0, x1, x2, x3, x4, x5⟩ := S.cc6 0 rfl
 cases b3 with
 | true =>
  have HC : Hid (C = 2) := Lib.hid (by rw [HQ.out, HB'.out]; simp)
  go_wp2
  go_ret
  exact ⟨by rw [HC.out]; rfl, S.k⟩
 | false =>
 go_wp2_with fail
 refine (H4.out _).mono ?_
 rintro e w4 ⟨rfl, hk⟩
 clear x0 x1 x2 x3 x4 x5
 replace S := S.below hk
 clear hk
 obtain ⟨x0, x1, x2, x3, x4, x5⟩ := S.cc6 0 rfl
 cases b4 with
 | true =>
  have HC : Hid (C = 2) := Lib.hid (by rw [HQ.out, HB'.out]; simp)
  go_wp2
  go_ret
  exact ⟨by rw [HC.out]; rfl, S.k⟩
 | false =>
 have HQ2 : Hid (C = if (zs.length : Int) ≠ W * H then 4 else if zs.any badZ then 2 else 0) := Lib.hid (by rw [HQ.out, HB'.out]; rfl)
 have hq0 : 0 ≤ W * H := Int.mul_nonneg (by omega) (by omega)
 have hq1 : W * H ≤ 64 * 64 := Int.mul_le_mul (by omega) (by omega) (by omega) (by omega)
 obtain ⟨q, hq⟩ : ∃ q, W * H = q := ⟨_, rfl⟩
 rw [hq] at hq0 hq1 HQ2
 clear d1 d2 d3 d4 d5 d6 d7 d7' s1 s2 s3 s4 s5 s6 s7
 by_cases t5 : (zs.length : Int) = q
 ·have d5 : ((zs.length : Int) != q) = false := by simp [t5]
  have HC : Hid (C = if zs.any badZ then 2 else 0) := Lib.hid (by rw [HQ2.out, if_neg (by simp [t5])])
  clear t5
  go_wp2
  clear x0 x1 x2 x3 x4 x5 d5
  go_loopw [61] (fun i wr => ∃ k : Nat, k ≤ zs.length ∧ i = .int .i64 (k : Nat) ∧ Hid ((zs.take k).any badZ = false) ∧ Keeps w4 wr) (fun i _ => zs.length - (intOf i).toNat)
  case atStart => exact ⟨0, Nat.zero_le _, rfl, Lib.hid (by simp), Below.refl _ _⟩
  case round =>
   obtain ⟨k, hkd, rfl, HN, hk⟩ := hrel
   by_cases hlt : k < zs.length
   ·obtain ⟨b, o, rfl, c1⟩ := IRow.at (HR.out.below (S.k.trans' hk)) (j := k) (by omega)
    have HY : Hid (badZ (zs.getD k 0) = true → zs.any badZ = true) := Lib.hid (any_yes hlt)
    have HZ : Hid (badZ (zs.getD k 0) = false → (zs.take (k + 1)).any badZ = false) := Lib.hid (any_snoc_no hlt HN.out)
    have hkI : (k : Int) < zs.length := by omega
    generalize zs.getD k 0 = x at *
    by_cases t1 : x = -2147483648
    ·have d1 : (x != -2147483648) = false := by simp [t1]
     have HT := Lib.hid (HZ.out (by unfold badZ; simp [t1]))
     clear t1
     go_wp2
     go_roundw
     case rel => exact ⟨k + 1, by omega, by go_num, HT, hk⟩
     case measure => simp [intOf]; omega
    ·have d1 : (x != -2147483648) = true := by simp [t1]
     have HE : Hid (badZ x = farP x) := Lib.hid (by unfold badZ; simp [t1])
     have HF := Lib.hid (law48_far wr x)
     obtain ⟨f, hf⟩ : ∃ f, farP x = f := ⟨_, rfl⟩
     rw [hf] at HE HF
     clear t1 hf
     go_wp2_with fail
     refine HF.out.mono ?_
     rintro e w1 ⟨rfl, hk1⟩
     cases f with
     | true =>
      have HT := Lib.hid (HY.out HE.out)
      go_wp2
      go_ret
      exact ⟨by rw [HC.out, HT.out]; rfl, S.k.trans' (hk.trans' hk1)⟩
     | false =>
      have HT := Lib.hid (HZ.out HE.out)
      go_wp2
      go_roundw
      case rel => exact ⟨k + 1, by omega, by go_num, HT, hk.trans' hk1⟩
      case measure => simp [intOf]; omega
   ·obtain rfl : k = zs.length := by omega
    go_wp2
    go_ret
    refine ⟨?_, S.k.trans' hk⟩
    have h := HN.out
    rw [List.take_of_length_le (Nat.le_refl _)] at h
    rw [HC.out, h]
    rfl
 ·have d5 : ((zs.length : Int) != q) = true := by simp [t5]
  have HC : Hid (C = 4) := Lib.hid (by rw [HQ2.out, if_pos t5])
  clear t5
  go_wp2
  go_ret
  exact ⟨by rw [HC.out]; rfl, S.k⟩
set_option maxRecDepth 100000 in
theorem lChecked_any {w : World} {A : Option Addr} {c : Nat} {zs : List Int} (hr : IRow w A zs) (gx gy st W H : Int) (hl : zs.length ≤ maxLen) :
 Calls Tryz.prog 6 #[grV gx gy st W H A zs.length c] w fun e w' => e = .returned (.int .i64 (chkG gx gy st W H zs)) ∧ Keeps w w' := by
 have S := (St.start w).alloc 24 (grL gx gy st W H A zs.length c)
 obtain ⟨W0, hW0, S⟩ := S.pack
 have HK := Lib.hid (lchecked_any (c := c) (hr.below S.k) gx gy st W H hl)
 obtain ⟨x0, x1, x2, x3, x4, x5⟩ := S.cc6 0 rfl
 clear hr
 go_enter Tryz.func6, Tryz.ntmps6
 go_wp2_with fail
 refine HK.out.mono ?_
 rintro e w1 ⟨rfl, hk⟩
 go_wp2
 go_ret
 exact ⟨rfl, S.k.trans' hk⟩
set_option maxRecDepth 100000 in
theorem clevel_ok {w : World} {A : Option Addr} {c : Nat} {zs : List Int} (hr : IRow w A zs) (gx gy st W H v : Int) (hl : zs.length ≤ maxLen) (h0 : chkG gx gy st W H zs = 0) (hv : v % 2 = 1) (h1 : -2097153 ≤ v) (h2 : v ≤ 2097153) :
 Calls Tryz.prog 29 #[grV gx gy st W H A zs.length c, .int .i64 v] w fun e w' => e = .returned (.int .i64 0) ∧ Keeps w w' := by
 have S := (St.start w).alloc 24 (grL gx gy st W H A zs.length c)
 obtain ⟨W0, hW0, S⟩ := S.pack
 have HK := Lib.hid (tcheck_any (c := c) (hr.below S.k) gx gy st W H hl)
 rw [h0] at HK
 obtain ⟨x0, x1, x2, x3, x4, x5⟩ := S.cc6 0 rfl
 have hr1 : v.tmod 2 ≠ 0 := fun h => by
  have := Int.tmod_add_mul_tdiv v 2
  rw [h] at this
  omega
 have d1 : (v.tmod 2 == 0) = false := by simp [hr1]
 have d2 : decide (v < -2097153) = false := decide_eq_false (by omega)
 have d3 : decide (2097153 < v) = false := decide_eq_false (by omega)
 clear hr h0
 go_enter Tryz.func29, Tryz.ntmps29
 go_wp2_with fail
 refine HK.out.mono ?_
 rintro e w1 ⟨rfl, hk⟩
 go_wp2
 all_goals (go_ret; exact ⟨rfl, S.k.trans' hk⟩)
def bigZ (z : Int) : Bool := decide (z ≠ -2147483648) && (decide (524288 < z) || decide (z < -524288))
set_option maxRecDepth 100000 in
theorem to1_big (w : World) : Says Tryz.prog 21 #[] bigZ w := fun u hk x => by
 show Calls Tryz.prog 21 #[.int .i64 x] u _
 by_cases t1 : x = -2147483648
 ·have HF := Lib.hid (show bigZ x = false by unfold bigZ; simp [t1])
  have d : (x != -2147483648) = false := by simp [t1]
  clear t1
  go_enter Tryz.func21, Tryz.ntmps21
  go_wp2
  all_goals (go_ret; exact ⟨by rw [HF.out]; first | rfl | (simp; omega), Below.refl _ _⟩)
 ·have d : (x != -2147483648) = true := by simp [t1]
  by_cases t2 : 524288 < x
  ·have HF := Lib.hid (show bigZ x = true by unfold bigZ; simp [t1, t2])
   have d2 : decide (524288 < x) = true := decide_eq_true t2
   clear t1
   go_enter Tryz.func21, Tryz.ntmps21
   go_wp2
   all_goals (go_ret; exact ⟨by rw [HF.out]; first | rfl | (simp; omega), Below.refl _ _⟩)
  ·have d2 : decide (524288 < x) = false := decide_eq_false t2
   by_cases t3 : x < -524288
   ·have HF := Lib.hid (show bigZ x = true by unfold bigZ; simp [t1, t3])
    have d3 : decide (x < -524288) = true := decide_eq_true t3
    clear t1
    go_enter Tryz.func21, Tryz.ntmps21
    go_wp2
    all_goals (go_ret; exact ⟨by rw [HF.out]; first | rfl | (simp; omega), Below.refl _ _⟩)
   ·have HF := Lib.hid (show bigZ x = false by unfold bigZ; simp; omega)
    have d3 : decide (x < -524288) = false := decide_eq_false t3
    clear t1
    go_enter Tryz.func21, Tryz.ntmps21
    go_wp2
    all_goals (go_ret; exact ⟨by rw [HF.out]; first | rfl | (simp; omega), Below.refl _ _⟩)
set_option maxRecDepth 100000 in
set_option maxHeartbeats 1000000 in
theorem to1_i {w : World} {A : Option Addr} {c : Nat} {px : List Int} (hr : IRow w A px) (hl : px.length ≤ maxLen) (p : Int → Bool) (hp : Says Tryz.prog 21 #[] p w) :
 Calls Tryz.prog 28 #[.slice A px.length c, .func (.func 21) #[] #[]] w fun e w' => ∃ v : Int, e = .returned (.int .i64 v) ∧ decide (0 ≤ v) = px.any p ∧ Keeps w w' := by
 have hlI : (px.length : Int) ≤ 9223372036854775807 := by simp only [maxLen] at hl; omega
 have HP : Hid (Says Tryz.prog 21 #[] p w) := Lib.hid hp
 have HR := Lib.hid hr
 clear hr hp
 go_enter Tryz.func28, Tryz.ntmps28
 go_wp2
 go_loopw [8] (fun i wr => ∃ k : Nat, k ≤ px.length ∧ i = .int .i64 (k : Nat) ∧ Hid ((px.take k).any p = false) ∧ Keeps w wr) (fun i _ => px.length - (intOf i).toNat)
 case atStart => exact ⟨0, Nat.zero_le _, rfl, Lib.hid (by simp), Below.refl _ _⟩
 case round =>
  obtain ⟨k, hkd, rfl, HN, hk⟩ := hrel
  by_cases hlt : k < px.length
  ·obtain ⟨b, o, rfl, c1⟩ := IRow.at (HR.out.below hk) (j := k) (by omega)
   have HS := Lib.hid (HP.out wr hk (px.getD k 0))
   have HY : Hid (p (px.getD k 0) = true → px.any p = true) := Lib.hid (any_yes hlt)
   have HZ : Hid (p (px.getD k 0) = false → (px.take (k + 1)).any p = false) := Lib.hid (any_snoc_no hlt HN.out)
   generalize px.getD k 0 = x at *
   go_wp2_with fail
   refine HS.out.mono ?_
   rintro e w1 ⟨rfl, hk1⟩
   cases hpx : p x with
   | true =>
    have HT := Lib.hid (HY.out hpx)
    clear hpx
    go_wp2
    go_ret
    exact ⟨_, rfl, by rw [HT.out]; simp, hk.trans' hk1⟩
   | false =>
    have HT := Lib.hid (HZ.out hpx)
    clear hpx
    go_wp2
    go_roundw
    case rel => exact ⟨k + 1, by omega, by go_num, HT, hk.trans' hk1⟩
    case measure => simp [intOf]; omega
  ·obtain rfl : k = px.length := by omega
   go_wp2
   go_ret
   exact ⟨_, rfl, by have := HN.out; rw [List.take_of_length_le (Nat.le_refl _)] at this; rw [this]; rfl, hk⟩
set_option maxRecDepth 100000 in
theorem to1_c {w : World} {A : Option Addr} {c : Nat} {px : List Int} (hr : IRow w A px) (hl : px.length ≤ maxLen) (p : Int → Bool) (hp : Says Tryz.prog 21 #[] p w) :
 Calls Tryz.prog 7 #[.slice A px.length c, .func (.func 21) #[] #[]] w fun e w' => e = .returned (.bool (px.any p)) ∧ Keeps w w' := by
 have HI := Lib.hid (to1_i (c := c) hr hl p hp)
 clear hr hp
 go_enter Tryz.func7, Tryz.ntmps7
 go_wp2_with fail
 refine HI.out.mono ?_
 rintro e w1 ⟨v, rfl, hv, hk⟩
 have HV := Lib.hid hv
 clear hv
 go_wp2
 all_goals (go_ret; exact ⟨by rw [← HV.out]; rfl, hk⟩)
end Go.Proofs.YtecibfncnaccjaaGreat
