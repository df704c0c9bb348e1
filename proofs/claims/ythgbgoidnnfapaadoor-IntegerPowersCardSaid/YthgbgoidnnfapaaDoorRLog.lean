/- The walk of the reference's Log. -/
import Derived.Test.YthgbgoidnnfapaaDoorRShort
import Derived.Test.YthgbgoidnnfapaaDoorLawB
namespace Go.Proofs.YthgbgoidnnfapaaDoor
open Go.RowKit Go.Shelf

set_option maxRecDepth 100000 in
set_option maxHeartbeats 400000 in
theorem rlog_num (z : Int) (V : Value) (w : World) (h : IntNum w V z) :
    Calls Tryd.prog 37 #[V] w fun e w' => e = .returned (.int .i64 (log2 z.natAbs)) ∧ Keeps w w' := by
  have hzl : lenI z ≤ 900000 := by obtain ⟨neg, xs, -, rfl, hl⟩ := h; have := lenI_cnt neg xs; omega
  obtain ⟨b0, v0, rfl⟩ : ∃ b0 v0, V = .agg #[.bool b0, v0] := by
    obtain ⟨neg, xs, ⟨v, rfl, hv⟩, -⟩ := h
    exact ⟨_, _, rfl⟩
  have hkk := box2 w (.cells #[.bool b0, v0] 24)
  have hV := Lib.hid (rvalue_num (h.below hkk))
  have hb := log2_len z.natAbs
  unfold lenI at hzl
  obtain ⟨m, hm⟩ : ∃ m, z.natAbs = m := ⟨_, rfl⟩
  rw [hm] at hb hzl ⊢
  have HM := Lib.hid hm
  clear hm
  go_enter Tryd.func37, Tryd.ntmps37
  go_wp2_with fail
  refine hV.out.mono ?_
  rintro e w1 ⟨V1, rfl, hr1, hk1⟩
  obtain ⟨A1, m1, c1, rfl, hv1⟩ := hr1.open_
  rw [HM.out] at hv1
  have hfd := field_groups (.bool (decide (z < 0))) (.slice A1 m1 c1)
  have hk2 := hkk.trans' hk1
  go_wp2
  go_loopw [3, 4] (fun g k wr => ∃ (r : Nat) (kk : Int), U32 wr g (dig r) ∧ k = .int .i64 kk ∧ log2 m = log2 r + kk + 1 ∧ -1 ≤ kk ∧ r ≤ m ∧ Keeps w wr) (fun _ k _ => (27000000 - intOf k).toNat)
  case atStart => exact ⟨m, -1, hv1, rfl, by omega, by omega, Nat.le_refl _, hk2⟩
  case round =>
    obtain ⟨r, kk, hu, rfl, hlog, hk0, hrm, hkr⟩ := hrel
    have hlr := dig_length_mono hrm
    obtain ⟨A, n, c, rfl, e1, -⟩ := hu.open_
    have hge := log2_ge r
    have hk9 : kk < 27000000 := by omega
    by_cases hlt : 1 < n
    · have hs := log2_29 (r := r) (by omega)
      have HS := Lib.hid hs
      have HL := Lib.hid hlog
      have HE := Lib.hid e1
      clear hs hlog e1
      go_wp2_with fail
      refine (rshort_any _ r 536870912 _ hu (by omega) (by omega) (by omega)).mono ?_
      rintro e w2 ⟨v2, rfl, hu2, hk3⟩
      go_wp2
      go_roundw
      case rel => exact ⟨r / 536870912, kk + 29, hu2, rfl, by have := HS.out; have := HL.out; omega, by omega, Nat.le_trans (Nat.div_le_self _ _) hrm, hkr.trans' hk3⟩
      case measure => simp [intOf]; omega
    · have hx := ix_small (r := r) (by omega)
      have hr9 : r < 1000000000 := by
        have := dig_lt r
        have h2 : 1000000000 ^ (dig r).length ≤ 1000000000 ^ 1 := Nat.pow_le_pow_right (by omega) (by omega)
        omega
      have HX := Lib.hid hx
      have HL := Lib.hid hlog
      have HE := Lib.hid e1
      clear hx hlog e1
      go_wp2_with fail
      refine (group_any _ (dig r) 0 _ hu (AllB.dig r) (by omega) (by omega)).mono ?_
      rintro e w2 ⟨rfl, rfl⟩
      rw [HX.out]
      go_wp2
      go_loopw [4, 5] (fun k t w2 => ∃ (kk t' : Nat), k = .int .i64 ((kk : Int) - 1) ∧ t = .int .u64 (t' : Nat) ∧ log2 m = log2 t' + kk ∧ t' < 1000000000 ∧ w2 = wr) (fun _ t _ => (intOf t).toNat)
      case atStart => exact ⟨(kk + 1).toNat, r, by congr 1; omega, rfl, by have := HL.out; omega, hr9, rfl⟩
      case round =>
        obtain ⟨k2, t, rfl, rfl, hlog, ht, rfl⟩ := hrel
        have hge := log2_ge t
        by_cases h0 : 0 < t
        · have hh := log2_half (m := t) (by omega)
          have HH := Lib.hid hh
          have HL := Lib.hid hlog
          have hk9 : k2 ≤ 27000001 := by omega
          clear hh hlog
          go_wp2
          go_roundw
          case rel => exact ⟨k2 + 1, t / 2, by congr 1; omega, by go_num, by have := HH.out; have := HL.out; omega, by omega, by trivial⟩
          case measure => simp [intOf]; omega
        · obtain rfl : t = 0 := by omega
          rw [log2_zero] at hlog
          have HL := Lib.hid hlog
          have hk9 : k2 ≤ 27000001 := by omega
          clear hlog
          go_wp2
          go_ret
          exact ⟨ret_int (by have := HL.out; omega), hkr⟩
end Go.Proofs.YthgbgoidnnfapaaDoor
