/- Height grids checked: terrain.Check, the document's checked, contour.checkLevel: the walks. -/
import Derived.Test.YtecibfncnaccjaaGreatPo2
import Derived.Test.YtecibfncnaccjaaGreatPo28
namespace Go.Proofs.YtecibfncnaccjaaGreat
open Go.RowKit Go.Shelf
def farP (n : Int) : Bool := decide (n < -1048576) || decide (1048576 < n)
def badZ (z : Int) : Bool := decide (z ≠ -2147483648) && farP z
def sideB (n : Int) : Bool := decide (2 ≤ n) && decide (n ≤ 64)
def badG (gx gy st W H : Int) : Bool := !sideB W || !sideB H || decide (st < 2) || decide (65536 < st) || decide (st.tmod 2 ≠ 0) || farP gx || farP gy
def chkG (gx gy st W H : Int) (zs : List Int) : Int := if badG gx gy st W H then 2 else if (zs.length : Int) ≠ W * H then 4 else if zs.any badZ then 2 else 0
set_option maxRecDepth 100000 in
theorem terrain_far (w : World) (n : Int) : Calls Tryz.prog 61 #[.int .i64 n] w fun e w' => e = .returned (.bool (farP n)) ∧ Keeps w w' := by
 by_cases t1 : n < -1048576
 ·have HF := Lib.hid (show farP n = true by unfold farP; simp [t1])
  go_enter Tryz.func61, Tryz.ntmps61
  go_wp2
  all_goals (go_ret; exact ⟨by rw [HF.out]; rfl, Below.refl _ _⟩)
 ·by_cases t2 : 1048576 < n
  ·have HF := Lib.hid (show farP n = true by unfold farP; simp [t2])
   go_enter Tryz.func61, Tryz.ntmps61
   go_wp2
   all_goals (go_ret; exact ⟨by rw [HF.out]; first | rfl | (simp; omega), Below.refl _ _⟩)
  ·have HF := Lib.hid (show farP n = false by unfold farP; simp; omega)
   go_enter Tryz.func61, Tryz.ntmps61
   go_wp2
   all_goals (go_ret; exact ⟨by rw [HF.out]; first | rfl | (simp; omega), Below.refl _ _⟩)
set_option maxRecDepth 100000 in
theorem volume_far (w : World) (n : Int) : Calls Tryz.prog 39 #[.int .i64 n] w fun e w' => e = .returned (.bool (farP n)) ∧ Keeps w w' := by
 by_cases t1 : n < -1048576
 ·have HF := Lib.hid (show farP n = true by unfold farP; simp [t1])
  go_enter Tryz.func39, Tryz.ntmps39
  go_wp2
  all_goals (go_ret; exact ⟨by rw [HF.out]; rfl, Below.refl _ _⟩)
 ·by_cases t2 : 1048576 < n
  ·have HF := Lib.hid (show farP n = true by unfold farP; simp [t2])
   go_enter Tryz.func39, Tryz.ntmps39
   go_wp2
   all_goals (go_ret; exact ⟨by rw [HF.out]; first | rfl | (simp; omega), Below.refl _ _⟩)
  ·have HF := Lib.hid (show farP n = false by unfold farP; simp; omega)
   go_enter Tryz.func39, Tryz.ntmps39
   go_wp2
   all_goals (go_ret; exact ⟨by rw [HF.out]; first | rfl | (simp; omega), Below.refl _ _⟩)
set_option maxRecDepth 100000 in
theorem law48_far (w : World) (n : Int) : Calls Tryz.prog 64 #[.int .i64 n, .int .i64 1048576] w fun e w' => e = .returned (.bool (farP n)) ∧ Keeps w w' := by
 by_cases t2 : 1048576 < n
 ·have HF := Lib.hid (show farP n = true by unfold farP; simp [t2])
  go_enter Tryz.func64, Tryz.ntmps64
  go_wp2
  all_goals (go_ret; exact ⟨by rw [HF.out]; first | rfl | (simp; omega), Below.refl _ _⟩)
 ·by_cases t1 : n < -1048576
  ·have HF := Lib.hid (show farP n = true by unfold farP; simp [t1])
   go_enter Tryz.func64, Tryz.ntmps64
   go_wp2
   all_goals (go_ret; exact ⟨by rw [HF.out]; first | rfl | (simp; omega), Below.refl _ _⟩)
  ·have HF := Lib.hid (show farP n = false by unfold farP; simp; omega)
   go_enter Tryz.func64, Tryz.ntmps64
   go_wp2
   all_goals (go_ret; exact ⟨by rw [HF.out]; first | rfl | (simp; omega), Below.refl _ _⟩)
set_option maxRecDepth 100000 in
theorem side_any (w : World) (n : Int) : Calls Tryz.prog 75 #[.int .i64 n] w fun e w' => e = .returned (.bool (sideB n)) ∧ Keeps w w' := by
 by_cases t1 : 2 ≤ n
 ·by_cases t2 : n ≤ 64
  ·have HF := Lib.hid (show sideB n = true by unfold sideB; simp [t1, t2])
   go_enter Tryz.func75, Tryz.ntmps75
   go_wp2
   all_goals (go_ret; exact ⟨by rw [HF.out]; first | rfl | (simp; omega), Below.refl _ _⟩)
  ·have HF := Lib.hid (show sideB n = false by unfold sideB; simp; omega)
   go_enter Tryz.func75, Tryz.ntmps75
   go_wp2
   all_goals (go_ret; exact ⟨by rw [HF.out]; first | rfl | (simp; omega), Below.refl _ _⟩)
 ·have HF := Lib.hid (show sideB n = false by unfold sideB; simp; omega)
  go_enter Tryz.func75, Tryz.ntmps75
  go_wp2
  all_goals (go_ret; exact ⟨by rw [HF.out]; first | rfl | (simp; omega), Below.refl _ _⟩)
set_option maxRecDepth 100000 in
theorem badZ_any (w : World) : Says Tryz.prog 76 #[] badZ w := fun u hk x => by
 show Calls Tryz.prog 76 #[.int .i64 x] u _
 have HC := Lib.hid (terrain_far u x)
 by_cases t1 : x = -2147483648
 ·have HF := Lib.hid (show badZ x = false by unfold badZ; simp [t1])
  have d : (x != -2147483648) = false := by simp [t1]
  clear t1
  go_enter Tryz.func76, Tryz.ntmps76
  go_wp2
  all_goals (go_ret; exact ⟨by rw [HF.out]; first | rfl | (simp; omega), Below.refl _ _⟩)
 ·have HF := Lib.hid (show badZ x = farP x by unfold badZ; simp [t1])
  have d : (x != -2147483648) = true := by simp [t1]
  obtain ⟨b, hb⟩ : ∃ b, farP x = b := ⟨_, rfl⟩
  rw [hb] at HC HF
  clear t1 hb
  go_enter Tryz.func76, Tryz.ntmps76
  go_wp2_with fail
  refine HC.out.mono ?_
  rintro e w1 ⟨rfl, hk1⟩
  go_wp2
  all_goals (go_ret; exact ⟨by rw [HF.out]; rfl, hk1⟩)
set_option maxRecDepth 100000 in
set_option maxHeartbeats 1000000 in
theorem tc2_i {w : World} {A : Option Addr} {c : Nat} {px : List Int} (hr : IRow w A px) (hl : px.length ≤ maxLen) (p : Int → Bool) (hp : Says Tryz.prog 76 #[] p w) :
 Calls Tryz.prog 28 #[.slice A px.length c, .func (.func 76) #[] #[]] w fun e w' => ∃ v : Int, e = .returned (.int .i64 v) ∧ decide (0 ≤ v) = px.any p ∧ Keeps w w' := by
 have hlI : (px.length : Int) ≤ 9223372036854775807 := by simp only [maxLen] at hl; omega
 have HP : Hid (Says Tryz.prog 76 #[] p w) := Lib.hid hp
 have HR := Lib.hid hr
 clear hr hp
 go_enter Tryz.func28, Tryz.ntmps28
 go_wp2
 go_loopw [8] (fun i wr => ∃ k : Nat, k ≤ px.length ∧ i = .int .i64 (k : Nat) ∧ Hid ((px.take k).any p = false) ∧ Keeps w wr) (fun i _ => px.length - (intOf i).toNat)
 case atStart => exact ⟨0, Nat.zero_le _, rfl, Lib.hid (by simp), Below.refl _ _⟩
 case round =>
  obtain ⟨k, hkd, rfl, HN, hk⟩ := hrel
  by_cases hlt : k < px.length
  ·obtain ⟨b, o, rfl, c1⟩ := IRow.at (HR.out.below hk) (j := k) (by omega)
   have HS := Lib.hid (HP.out wr hk (px.getD k 0))
   have HY : Hid (p (px.getD k 0) = true → px.any p = true) := Lib.hid (any_yes hlt)
   have HZ : Hid (p (px.getD k 0) = false → (px.take (k + 1)).any p = false) := Lib.hid (any_snoc_no hlt HN.out)
   generalize px.getD k 0 = x at *
   go_wp2_with fail
   refine HS.out.mono ?_
   rintro e w1 ⟨rfl, hk1⟩
   cases hpx : p x with
   | true =>
    have HT := Lib.hid (HY.out hpx)
    clear hpx
    go_wp2
    go_ret
    exact ⟨_, rfl, by rw [HT.out]; simp, hk.trans' hk1⟩
   | false =>
    have HT := Lib.hid (HZ.out hpx)
    clear hpx
    go_wp2
    go_roundw
    case rel => exact ⟨k + 1, by omega, by go_num, HT, hk.trans' hk1⟩
    case measure => simp [intOf]; omega
  ·obtain rfl : k = px.length := by omega
   go_wp2
   go_ret
   exact ⟨_, rfl, by have := HN.out; rw [List.take_of_length_le (Nat.le_refl _)] at this; rw [this]; rfl, hk⟩
set_option maxRecDepth 100000 in
theorem tc2_c {w : World} {A : Option Addr} {c : Nat} {px : List Int} (hr : IRow w A px) (hl : px.length ≤ maxLen) (p : Int → Bool) (hp : Says Tryz.prog 76 #[] p w) :
 Calls Tryz.prog 7 #[.slice A px.length c, .func (.func 76) #[] #[]] w fun e w' => e = .returned (.bool (px.any p)) ∧ Keeps w w' := by
 have HI := Lib.hid (tc2_i (c := c) hr hl p hp)
 clear hr hp
 go_enter Tryz.func7, Tryz.ntmps7
 go_wp2_with fail
 refine HI.out.mono ?_
 rintro e w1 ⟨v, rfl, hv, hk⟩
 have HV := Lib.hid hv
 clear hv
 go_wp2
 all_goals (go_ret; exact ⟨by rw [← HV.out]; rfl, hk⟩)
abbrev grV (gx gy st W H : Int) (A : Option Addr) (n c : Nat) : Value := .agg #[.int .i64 gx, .int .i64 gy, .int .i64 st, .int .i64 W, .int .i64 H, .slice A n c]
abbrev grL (gx gy st W H : Int) (A : Option Addr) (n c : Nat) : List Value := [.int .i64 gx, .int .i64 gy, .int .i64 st, .int .i64 W, .int .i64 H, .slice A n c]
set_option maxRecDepth 100000 in
set_option maxHeartbeats 1000000 in
theorem tcheck_any {w : World} {A : Option Addr} {c : Nat} {zs : List Int} (hr : IRow w A zs) (gx gy st W H : Int) (hl : zs.length ≤ maxLen) :
 Calls Tryz.prog 38 #[grV gx gy st W H A zs.length c] w fun e w' => e = .returned (.int .i64 (chkG gx gy st W H zs)) ∧ Keeps w w' := by
 have S := (St.start w).alloc 24 (grL gx gy st W H A zs.length c)
 obtain ⟨W0, hW0, S⟩ := S.pack
 have HR := Lib.hid hr
 have HL := Lib.hid hl
 have h1 := fun u => side_any u W
 have h2 := fun u => side_any u H
 have h3 := fun u => terrain_far u gx
 have h4 := fun u => terrain_far u gy
 have HB : Hid (badG gx gy st W H = (!sideB W || !sideB H || decide (st < 2) || decide (65536 < st) || decide (st.tmod 2 ≠ 0) || farP gx || farP gy)) := Lib.hid rfl
 have HW : Hid (sideB W = true → sideB H = true → 2 ≤ W ∧ W ≤ 64 ∧ 2 ≤ H ∧ H ≤ 64) := Lib.hid (by unfold sideB; simp; omega)
 have HQ : Hid (chkG gx gy st W H zs = if badG gx gy st W H then 2 else if (zs.length : Int) ≠ W * H then 4 else if zs.any badZ then 2 else 0) := Lib.hid rfl
 obtain ⟨C, hC⟩ : ∃ C, chkG gx gy st W H zs = C := ⟨_, rfl⟩
 rw [hC] at HQ ⊢
 obtain ⟨b0, hb0⟩ : ∃ b, badG gx gy st W H = b := ⟨_, rfl⟩
 obtain ⟨b1, hb1⟩ : ∃ b, sideB W = b := ⟨_, rfl⟩
 obtain ⟨b2, hb2⟩ : ∃ b, sideB H = b := ⟨_, rfl⟩
 obtain ⟨b3, hb3⟩ : ∃ b, farP gx = b := ⟨_, rfl⟩
 obtain ⟨b4, hb4⟩ : ∃ b, farP gy = b := ⟨_, rfl⟩
 rw [hb0] at HB HQ
 rw [hb1] at h1 HB HW
 rw [hb2] at h2 HB HW
 rw [hb3] at h3 HB
 rw [hb4] at h4 HB
 have H1 := Lib.hid h1
 have H2 := Lib.hid h2
 have H3 := Lib.hid h3
 have H4 := Lib.hid h4
 clear h1 h2 h3 h4 hb0 hb1 hb2 hb3 hb4 hC hr hl
 obtain ⟨x0, x1, x2, x3, x4, x5⟩ := S.cc6 0 rfl
 go_enter Tryz.func38, Tryz.ntmps38
 go_wp2_with fail
 refine (H1.out _).mono ?_
 rintro e w1 ⟨rfl, hk⟩
 clear x0 x1 x2 x3 x4 x5
 replace S := S.below hk
 clear hk
 obtain ⟨x0, x1, x2, x3, x4, x5⟩ := S.cc6 0 rfl
 cases b1 with
 | false =>
  have HC : Hid (C = 2) := Lib.hid (by rw [HQ.out, HB.out]; simp)
  go_wp2
  go_ret
  exact ⟨by rw [HC.out]; rfl, S.k⟩
 | true =>
 go_wp2_with fail
 refine (H2.out _).mono ?_
 rintro e w2 ⟨rfl, hk⟩
 clear x0 x1 x2 x3 x4 x5
 replace S := S.below hk
 clear hk
 obtain ⟨x0, x1, x2, x3, x4, x5⟩ := S.cc6 0 rfl
 cases b2 with
 | false =>
  have HC : Hid (C = 2) := Lib.hid (by rw [HQ.out, HB.out]; simp)
  go_wp2
  go_ret
  exact ⟨by rw [HC.out]; rfl, S.k⟩
 | true =>
 by_cases t1 : st < 2
 ·have HC : Hid (C = 2) := Lib.hid (by rw [HQ.out, HB.out]; simp [t1])
  have d1 : decide (st < 2) = true := decide_eq_true t1
  go_wp2
  go_ret
  exact ⟨by rw [HC.out]; rfl, S.k⟩
 have d1 : decide (st < 2) = false := decide_eq_false t1
 by_cases t2 : 65536 < st
 ·have HC : Hid (C = 2) := Lib.hid (by rw [HQ.out, HB.out]; simp [t2])
  have d2 : decide (65536 < st) = true := decide_eq_true t2
  go_wp2
  go_ret
  exact ⟨by rw [HC.out]; rfl, S.k⟩
 have d2 : decide (65536 < st) = false := decide_eq_false t2
 have te : st.tmod 2 = st % 2 := Int.tmod_eq_emod_of_nonneg (by omega)
 rw [te] at HB
 clear te
 by_cases t3 : st % 2 = 0
 case neg =>
  have HC : Hid (C = 2) := Lib.hid (by rw [HQ.out, HB.out]; simp [t3])
  have d3 : (st % 2 != 0) = true := by simp [t3]
  have d3' : (st % 2 == 0) = false := by simp [t3]
  go_wp2
  go_ret
  exact ⟨by rw [HC.out]; rfl, S.k⟩
 have d3 : (st % 2 != 0) = false := by simp [t3]
 have d3' : (st % 2 == 0) = true := by simp [t3]
 have HB' : Hid (b0 = (b3 || b4)) := Lib.hid (by rw [HB.out]; simp [t1, t2, t3])
 go_wp2_with fail
 refine (H3.out _).mono ?_
 rintro e w3 ⟨rfl, hk⟩
 clear x0 x1 x2 x3 x4 x5
 replace S := S.below hk
 clear hk
 obtain ⟨x0, x1, x2, x3, x4, x5⟩ := S.cc6 0 rfl
 cases b3 with
 | true =>
  have HC : Hid (C = 2) := Lib.hid (by rw [HQ.out, HB'.out]; simp)
  go_wp2
  go_ret
  exact ⟨by rw [HC.out]; rfl, S.k⟩
 | false =>
 go_wp2_with fail
 refine (H4.out _).mono ?_
 rintro e w4 ⟨rfl, hk⟩
 clear x0 x1 x2 x3 x4 x5
 replace S := S.below hk
 clear hk
 obtain ⟨x0, x1, x2, x3, x4, x5⟩ := S.cc6 0 rfl
 cases b4 with
 | true =>
  have HC : Hid (C = 2) := Lib.hid (by rw [HQ.out, HB'.out]; simp)
  go_wp2
  go_ret
  exact ⟨by rw [HC.out]; rfl, S.k⟩
 | false =>
 obtain ⟨hw1, hw2, hh1, hh2⟩ := HW.out (by first | exact trivial | rfl) (by first | exact trivial | rfl)
 have HQ2 : Hid (C = if (zs.length : Int) ≠ W * H then 4 else if zs.any badZ then 2 else 0) := Lib.hid (by rw [HQ.out, HB'.out]; rfl)
 have HS := Lib.hid (tc2_c (c := c) (HR.out.below S.k) HL.out badZ (badZ_any w4))
 have hq0 : 0 ≤ W * H := Int.mul_nonneg (by omega) (by omega)
 have hq1 : W * H ≤ 64 * 64 := Int.mul_le_mul (by omega) (by omega) (by omega) (by omega)
 obtain ⟨q, hq⟩ : ∃ q, W * H = q := ⟨_, rfl⟩
 rw [hq] at hq0 hq1 HQ2
 obtain ⟨r, hr⟩ : ∃ r, zs.any badZ = r := ⟨_, rfl⟩
 rw [hr] at HS HQ2
 clear hr t1 t2 t3 d1 d2 d3 d3'
 by_cases t5 : (zs.length : Int) = q
 ·have d5 : ((zs.length : Int) != q) = false := by simp [t5]
  have HC : Hid (C = if r then 2 else 0) := Lib.hid (by rw [HQ2.out, if_neg (by simp [t5])])
  clear t5
  go_wp2_with fail
  refine (HS.out).mono ?_
  rintro e w5 ⟨rfl, hk⟩
  clear x0 x1 x2 x3 x4 x5
  replace S := S.below hk
  clear hk
  obtain ⟨x0, x1, x2, x3, x4, x5⟩ := S.cc6 0 rfl
  cases r
  all_goals (go_wp2; go_ret; exact ⟨by rw [HC.out]; rfl, S.k⟩)
 ·have d5 : ((zs.length : Int) != q) = true := by simp [t5]
  have HC : Hid (C = 4) := Lib.hid (by rw [HQ2.out, if_pos t5])
  clear t5
  go_wp2
  go_ret
  exact ⟨by rw [HC.out]; rfl, S.k⟩
end Go.Proofs.YtecibfncnaccjaaGreat
