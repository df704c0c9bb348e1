/- The walk of the reference's Small. -/
import Derived.Test.YthgbgoidnnfapaaDoorSmall
import Derived.Test.YthgbgoidnnfapaaDoorLawB
namespace Go.Proofs.YthgbgoidnnfapaaDoor
open Go.RowKit Go.Shelf

theorem lenI_int {z : Int} (h : -9223372036854775808 ≤ z ∧ z ≤ 9223372036854775807) : lenI z ≤ 900000 := by
  unfold lenI
  have := dig_length_le (n := z.natAbs) (k := 3) (by omega)
  omega
theorem least_sign (z : Int) : (z < -9223372036854775808 ∧ (z - -9223372036854775808).sign = -1) ∨ (-9223372036854775808 ≤ z ∧ 0 ≤ (z - -9223372036854775808).sign) := by
  rcases Int.lt_or_le z (-9223372036854775808) with h | h
  · exact .inl ⟨h, Int.sign_eq_neg_one_of_neg (by omega)⟩
  · refine .inr ⟨h, ?_⟩
    rcases Int.lt_or_eq_of_le h with h | h
    · rw [Int.sign_eq_one_of_pos (by omega)]; omega
    · subst h; simp
theorem most_sign (z : Int) : (9223372036854775807 < z ∧ (z - 9223372036854775807).sign = 1) ∨ (z ≤ 9223372036854775807 ∧ (z - 9223372036854775807).sign ≤ 0) := by
  rcases Int.lt_or_le 9223372036854775807 z with h | h
  · exact .inl ⟨h, Int.sign_eq_one_of_pos (by omega)⟩
  · refine .inr ⟨h, ?_⟩
    rcases Int.lt_or_eq_of_le h with h | h
    · rw [Int.sign_eq_neg_one_of_neg (by omega)]; omega
    · subst h; simp
set_option maxRecDepth 100000 in
set_option maxHeartbeats 1000000 in
theorem rsmall_num (z : Int) (V : Value) (w : World) (h : IntNum w V z) :
    Calls Tryd.prog 17 #[V] w fun e w' => e = .returned (smallV z) ∧ Keeps w w' := by
  obtain ⟨b0, v0, rfl, hn0⟩ : ∃ b0 v0, V = .agg #[.bool b0, v0] ∧ noU32 v0 = true := by
    obtain ⟨neg, xs, ⟨v, rfl, hv⟩, -⟩ := h
    exact ⟨_, _, rfl, hv.noU⟩
  have hzl : lenI z ≤ 900000 := by obtain ⟨neg, xs, -, rfl, hl⟩ := h; have := lenI_cnt neg xs; omega
  have hX := Own.new w 24 [.bool b0, v0]
  have hkk := box2 w (.cells #[.bool b0, v0] 24)
  have hV := Lib.hid (rvalue_num (h.below hkk))
  have HN0 := Lib.hid hn0
  clear hn0
  go_enter Tryd.func17, Tryd.ntmps17
  go_wp2_with fail
  refine hV.out.mono ?_
  rintro e w1 ⟨V1, rfl, hr1, hk1⟩
  obtain ⟨A, n, c, rfl, hv1⟩ := hr1.open_
  have hX1 := hX.below hk1
  have x0 := hX1.c0
  have x1 := hX1.c1
  have x2 := hX1.frozen 0
  have x3 := hX1.frozen 1
  have hk2 := hkk.trans' hk1
  go_wp2_with fail
  have hX2 := hX1.two (.bool (decide (z < 0))) (.slice A n c)
  have hr2 := hr1.two (x' := .bool (decide (z < 0))) (y' := .slice A n c) hX1 rfl HN0.out rfl
  have hk3 := (hk2.set (p := ⟨w.heap.size, 0, none⟩) (by simp) (.bool (decide (z < 0)))).set (p := ⟨w.heap.size, 1, none⟩) (by simp) (.slice A n c)
  clear hX1 x0 x1 x2 x3 hr1 hv1 hk2 hX hV hkk h
  generalize (w1.setCell ⟨w.heap.size, 0, none⟩ (.bool (decide (z < 0)))).setCell ⟨w.heap.size, 1, none⟩ (.slice A n c) = W2 at *
  clear hk1
  refine (rof_any _ _ (by omega) (by omega)).mono ?_
  rintro e w3 ⟨V3, rfl, hr3, hk4⟩
  obtain ⟨A3, n3, c3, rfl, hv3⟩ := hr3.open_
  rw [show decide ((-9223372036854775808 : Int) < 0) = true from rfl] at hr3
  go_wp2_with fail
  refine (rof_any _ _ (by omega) (by omega)).mono ?_
  rintro e w4 ⟨V4, rfl, hr4, hk5⟩
  obtain ⟨A4, n4, c4, rfl, hv4⟩ := hr4.open_
  rw [show decide ((9223372036854775807 : Int) < 0) = false from rfl] at hr4
  have hX4 := (hX2.below hk4).below hk5
  have hk6 := (hk3.trans' hk4).trans' hk5
  have hr2' := (hr2.below hk4).below hk5
  have hz4 := hX4.lt
  have x0 := hX4.c0
  have x1 := hX4.c1
  have kb := keep2 w4 (.cells #[.bool true, .slice A3 n3 c3] 24) (.cells #[.bool false, .slice A4 n4 c4] 24)
  have hc1 := Lib.hid (rcompare_num ((hr2'.below kb).num hzl) (((hr3.below hk5).below kb).num (lenI_int (by omega))))
  have hmost := own2 w4 (.cells #[.bool true, .slice A3 n3 c3] 24) 24 [.bool false, .slice A4 n4 c4]
  have hX5 := hX4.below kb
  have hr5 := (hr4.below kb).num (lenI_int (by omega))
  have hr6 := hr2'.below kb
  have hk7 := hk6.trans' kb
  clear hX2 hk3 hr2 hk4 hk5 hv3 hv4 hX4 hk6 hr2'
  obtain ⟨s1, hs1⟩ : ∃ s, (z - -9223372036854775808).sign = s := ⟨_, rfl⟩
  rw [hs1] at hc1
  have L := least_sign z
  rw [hs1] at L
  clear hs1
  rcases L with ⟨hL, e1⟩ | ⟨hL, e1⟩
  · have hd : s1 < 0 := by omega
    have HL := Lib.hid hL
    clear hL e1
    go_wp2_with fail
    refine hc1.out.mono ?_
    rintro e w5 ⟨rfl, hk8⟩
    go_wp2
    go_ret2
    exact ⟨show Ending.returned (.tuple #[.int .i64 0, .bool false]) = .returned (smallV z) by rw [smallV_out (by have := HL.out; omega)], hk7.trans' hk8⟩
  · have HL := Lib.hid hL
    clear hL
    have hd1 : decide (s1 < 0) = false := decide_eq_false (by omega)
    go_wp2_with fail
    refine hc1.out.mono ?_
    rintro e w5 ⟨rfl, hk8⟩
    have hX6 := hX5.below hk8
    have hm6 := hmost.below hk8
    have hr7 := hr6.below hk8
    have hk9 := hk7.trans' hk8
    have hc2 := Lib.hid (rcompare_num (hr7.num hzl) (hr5.below hk8))
    clear x0 x1 hX5 hmost hr6 hk7 hr5 hk8 kb
    have x0 := hX6.c0
    have x1 := hX6.c1
    have y0 := hm6.c0
    have y1 := hm6.c1
    obtain ⟨s2, hs2⟩ : ∃ s, (z - 9223372036854775807).sign = s := ⟨_, rfl⟩
    rw [hs2] at hc2
    have M := most_sign z
    rw [hs2] at M
    clear hs2
    rcases M with ⟨hM, e2⟩ | ⟨hM, e2⟩
    · have hd : 0 < s2 := by omega
      have HM := Lib.hid hM
      clear hM e2
      go_wp2_with fail
      refine hc2.out.mono ?_
      rintro e w6 ⟨rfl, hk8⟩
      go_wp2
      go_ret2
      exact ⟨show Ending.returned (.tuple #[.int .i64 0, .bool false]) = .returned (smallV z) by rw [smallV_out (by have := HM.out; omega)], hk9.trans' hk8⟩
    · have HM := Lib.hid hM
      clear hM
      have hd2 : decide (0 < s2) = false := decide_eq_false (by omega)
      go_wp2_with fail
      refine hc2.out.mono ?_
      rintro e w6 ⟨rfl, hk8⟩
      have hX7 := hX6.below hk8
      have hr8 := hr7.below hk8
      have hk10 := hk9.trans' hk8
      clear x0 x1 y0 y1 hX6 hr7 hk9 hm6 hc1 hc2 hk8
      have x0 := hX7.c0
      have x1 := hX7.c1
      obtain ⟨m, hm⟩ : ∃ m, z.natAbs = m := ⟨_, rfl⟩
      have hu : U32 w6 (.slice A n c) (dig m) := by
        obtain ⟨v', e', hu⟩ := hr8
        cases e'
        rwa [hm] at hu
      obtain ⟨A', n', c', e', e1', hc, hcm, h0, hr⟩ := hu.open_
      cases e'
      have hm3 : m ≤ top63 := by have := HL.out; have := HM.out; unfold top63; omega
      have hn3 : n ≤ 3 := by have := dig_length_le (n := m) (k := 3) (by unfold top63 at hm3; omega); omega
      have HE := Lib.hid e1'
      have HA := Lib.hid hm
      have H3 := Lib.hid hm3
      clear hm e1' hm3 hu
      obtain ⟨b, hb⟩ : ∃ b, decide (z < 0) = b := ⟨_, rfl⟩
      have HB := Lib.hid hb
      rw [hb] at x0 hX7
      clear hb
      cases b with
      | true =>
        have HM3 := Lib.hid (show (m : Int) ≤ 9223372036854775808 by have := H3.out; unfold top63 at this; omega)
        go_wp2
        go_loop [6, 7] (fun x i => ∃ k : Nat, k ≤ n ∧ i = .int .i64 ((n : Int) - 1 - (k : Nat)) ∧ x = .int .i64 (-(val ((dig m).drop (n - k)) : Int))) (fun _ i => (intOf i + 1).toNat)
        case atStart => exact ⟨0, by omega, by go_num, by rw [List.drop_of_length_le (by rw [HE.out]; omega)]; rfl⟩
        case round =>
          obtain ⟨k, hk, rfl, rfl⟩ := hrel
          by_cases hlt : k < n
          · have e : (n : Int) - 1 - (k : Int) = ((n - 1 - k : Nat) : Int) := by omega
            rw [e]
            clear e
            have hdv : val ((dig m).drop (n - (k + 1))) = ix (dig m) (n - 1 - k) + 1000000000 * val ((dig m).drop (n - k)) := by
              rw [val_drop (dig m) (n - (k + 1)) (by rw [HE.out]; omega), show n - (k + 1) = n - 1 - k by omega, show n - 1 - k + 1 = n - k by omega]
            have hle : val ((dig m).drop (n - (k + 1))) ≤ m := by
              have := val_split (dig m) (n - (k + 1)) (by rw [HE.out]; omega)
              rw [val_dig] at this
              have h2 := Nat.le_mul_of_pos_left (val ((dig m).drop (n - (k + 1)))) (show 0 < 1000000000 ^ (n - (k + 1)) by exact Nat.pow_pos (by omega))
              omega
            have hdb := (AllB.dig m).ix (n - 1 - k)
            obtain ⟨q, hq⟩ : ∃ q, n - 1 - k = q := ⟨_, rfl⟩
            rw [hq] at hdv hdb ⊢
            have hqn : q < n := by omega
            have h00 : (0 : Int) ≤ (q : Int) := by omega
            have h01 : (q : Int) < (n : Int) := by omega
            obtain ⟨N, hN⟩ : ∃ N, val ((dig m).drop (n - k)) = N := ⟨_, rfl⟩
            obtain ⟨M, hM⟩ : ∃ M, val ((dig m).drop (n - (k + 1))) = M := ⟨_, rfl⟩
            rw [hN] at hdv ⊢
            rw [hM] at hdv hle
            obtain ⟨b1, o1, rfl, hb1, hcell⟩ := hr (by omega)
            have hx : w6.cell? ⟨b1, o1 + q, none⟩ = some (.int .u32 (ix (dig m) q : Nat)) := hcell q hqn
            clear hcell
            generalize ix (dig m) q = d at *
            have hlim : (N : Int) * 1000000000 + (d : Int) ≤ 9223372036854775808 := by have := HM3.out; omega
            have hNb : (N : Int) ≤ 9223372036 := by omega
            have hdb' : (d : Int) < 1000000000 := by omega
            have HQ := Lib.hid hq
            have HD := Lib.hid hdv
            have HMM := Lib.hid hM
            clear hq hdv hM hN hle hdb
            go_wp2
            go_round
            case rel => exact ⟨k + 1, by omega, by have := HQ.out; congr 1; omega, by rw [HMM.out]; have := HD.out; congr 1; omega⟩
            case measure => have := HQ.out; simp [intOf]
          · obtain rfl : k = n := by omega
            go_wp2
            go_ret2
            exact ⟨show Ending.returned (.tuple #[.int .i64 (-(val (dig m) : Int)), .bool true]) = .returned (smallV z) by rw [smallV_in (by have := HL.out; have := HM.out; omega), val_dig, show -(m : Int) = z by have := HA.out; have := HB.out; simp at this; omega], hk10⟩
      | false =>
        have HM3 := Lib.hid (show (m : Int) ≤ 9223372036854775807 by have := HA.out; have := HM.out; have := HB.out; simp at this; omega)
        go_wp2
        go_loop [6, 7] (fun x i => ∃ k : Nat, k ≤ n ∧ i = .int .i64 ((n : Int) - 1 - (k : Nat)) ∧ x = .int .i64 ((val ((dig m).drop (n - k)) : Int))) (fun _ i => (intOf i + 1).toNat)
        case atStart => exact ⟨0, by omega, by go_num, by rw [List.drop_of_length_le (by rw [HE.out]; omega)]; rfl⟩
        case round =>
          obtain ⟨k, hk, rfl, rfl⟩ := hrel
          by_cases hlt : k < n
          · have e : (n : Int) - 1 - (k : Int) = ((n - 1 - k : Nat) : Int) := by omega
            rw [e]
            clear e
            have hdv : val ((dig m).drop (n - (k + 1))) = ix (dig m) (n - 1 - k) + 1000000000 * val ((dig m).drop (n - k)) := by
              rw [val_drop (dig m) (n - (k + 1)) (by rw [HE.out]; omega), show n - (k + 1) = n - 1 - k by omega, show n - 1 - k + 1 = n - k by omega]
            have hle : val ((dig m).drop (n - (k + 1))) ≤ m := by
              have := val_split (dig m) (n - (k + 1)) (by rw [HE.out]; omega)
              rw [val_dig] at this
              have h2 := Nat.le_mul_of_pos_left (val ((dig m).drop (n - (k + 1)))) (show 0 < 1000000000 ^ (n - (k + 1)) by exact Nat.pow_pos (by omega))
              omega
            have hdb := (AllB.dig m).ix (n - 1 - k)
            obtain ⟨q, hq⟩ : ∃ q, n - 1 - k = q := ⟨_, rfl⟩
            rw [hq] at hdv hdb ⊢
            have hqn : q < n := by omega
            have h00 : (0 : Int) ≤ (q : Int) := by omega
            have h01 : (q : Int) < (n : Int) := by omega
            obtain ⟨N, hN⟩ : ∃ N, val ((dig m).drop (n - k)) = N := ⟨_, rfl⟩
            obtain ⟨M, hM⟩ : ∃ M, val ((dig m).drop (n - (k + 1))) = M := ⟨_, rfl⟩
            rw [hN] at hdv ⊢
            rw [hM] at hdv hle
            obtain ⟨b1, o1, rfl, hb1, hcell⟩ := hr (by omega)
            have hx : w6.cell? ⟨b1, o1 + q, none⟩ = some (.int .u32 (ix (dig m) q : Nat)) := hcell q hqn
            clear hcell
            generalize ix (dig m) q = d at *
            have hlim : (N : Int) * 1000000000 + (d : Int) ≤ 9223372036854775807 := by have := HM3.out; omega
            have hNb : (N : Int) ≤ 9223372036 := by omega
            have hdb' : (d : Int) < 1000000000 := by omega
            have HQ := Lib.hid hq
            have HD := Lib.hid hdv
            have HMM := Lib.hid hM
            clear hq hdv hM hN hle hdb
            go_wp2
            go_round
            case rel => exact ⟨k + 1, by omega, by have := HQ.out; congr 1; omega, by rw [HMM.out]; have := HD.out; congr 1; omega⟩
            case measure => have := HQ.out; simp [intOf]
          · obtain rfl : k = n := by omega
            go_wp2
            go_ret2
            exact ⟨show Ending.returned (.tuple #[.int .i64 ((val (dig m) : Int)), .bool true]) = .returned (smallV z) by rw [smallV_in (by have := HL.out; have := HM.out; omega), val_dig, show (m : Int) = z by have := HA.out; have := HB.out; simp at this; omega], hk10⟩
end Go.Proofs.YthgbgoidnnfapaaDoor
