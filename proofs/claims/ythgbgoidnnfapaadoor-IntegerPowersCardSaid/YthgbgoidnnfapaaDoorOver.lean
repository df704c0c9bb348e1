/- The walk of over: quotient and remainder of two magnitudes. -/
import Derived.Test.YthgbgoidnnfapaaDoorLong
namespace Go.Proofs.YthgbgoidnnfapaaDoor
open Go.RowKit Go.Shelf

theorem mcmp_s {w : World} {v1 v2 : Value} {a b : Nat} {s : Int} (h1 : U32 w v1 (dig a)) (h2 : U32 w v2 (dig b)) (hm1 : (dig a).length ≤ 1000000000) (hm2 : (dig b).length ≤ 1000000000) (e : ((a : Int) - b).sign = s) :
    Calls Tryd.prog 62 #[v1, v2] w fun e w' => e = .returned (.int .i64 s) ∧ Keeps w w' := by subst e; exact compare_any v1 v2 a b w h1 h2 hm1 hm2
theorem lt_sign (a b : Nat) : (a < b ∧ ((a : Int) - b).sign < 0) ∨ (b ≤ a ∧ 0 ≤ ((a : Int) - b).sign) := by
  rcases Nat.lt_or_ge a b with h | h
  · exact .inl ⟨h, by rw [Int.sign_eq_neg_one_of_neg (by omega)]; omega⟩
  · refine .inr ⟨h, ?_⟩
    rcases Nat.lt_or_eq_of_le h with h | h
    · rw [Int.sign_eq_one_of_pos (by omega)]; omega
    · subst h; simp
/-- quotient and remainder, each a magnitude -/
def DivRes (a b : Nat) (w : World) (e : Ending) (w' : World) : Prop := ∃ q r, e = .returned (.tuple #[q, r]) ∧ U32 w' q (dig (a / b)) ∧ U32 w' r (dig (a % b)) ∧ Keeps w w'
theorem dig_one {b : Nat} (h : (dig b).length = 1) : 0 < b ∧ b < 1000000000 ∧ dig b = [b] := by
  have h0 : b ≠ 0 := by intro e; rw [e, dig_zero] at h; simp at h
  have h1 := dig_lt b
  rw [h] at h1
  exact ⟨by omega, by omega, dig_small h0 (by omega)⟩
theorem big_len {a : Nat} (h : ¬ a < 1000000000000000000) : 2 < (dig a).length := by
  rcases Nat.lt_or_ge 2 (dig a).length with h1 | h1
  · exact h1
  · have := dig_lt a
    have h3 : 1000000000 ^ (dig a).length ≤ 1000000000 ^ 2 := Nat.pow_le_pow_right (by omega) h1
    omega

set_option maxRecDepth 100000 in
set_option maxHeartbeats 1000000 in
theorem over_any (v1 v2 : Value) (a b : Nat) (w : World) (h1 : U32 w v1 (dig a)) (h2 : U32 w v2 (dig b)) (hl1 : (dig a).length ≤ 900000) (hl2 : (dig b).length ≤ 900000) (hb : b ≠ 0) :
    Calls Tryd.prog 73 #[v1, v2] w (DivRes a b w) := by
  obtain ⟨A1, m1, c1, rfl, e1, -, -, -, r1⟩ := h1.open_
  obtain ⟨A2, m2, c2, rfl, e2, -, -, -, r2⟩ := h2.open_
  have hb1 := dig_length_pos.2 hb
  obtain ⟨s, hs⟩ : ∃ s, ((a : Int) - b).sign = s := ⟨_, rfl⟩
  have hL := lt_sign a b
  rw [hs] at hL
  have hc := Lib.hid (mcmp_s h1 h2 (by omega) (by omega) hs)
  clear hs
  rcases hL with ⟨hL, hs⟩ | ⟨hL, hs⟩
  · have hd : decide (s < 0) = true := decide_eq_true hs
    have HL := Lib.hid hL
    clear hL e1 e2
    go_enter Tryd.func73, Tryd.ntmps73
    go_wp2_with fail
    refine hc.out.mono ?_
    rintro e w1 ⟨rfl, hk1⟩
    go_wp2
    go_ret2
    exact ⟨_, _, rfl, by rw [Nat.div_eq_of_lt HL.out, dig_zero]; exact U32.nil, by rw [Nat.mod_eq_of_lt HL.out]; exact h1.below hk1, hk1⟩
  · have hd : decide (s < 0) = false := decide_eq_false (by omega)
    have HL := Lib.hid hL
    have HE1 := Lib.hid e1
    have HE2 := Lib.hid e2
    have hm2 : 0 < m2 := by omega
    have hm2b : m2 ≤ 900000 := by omega
    have hw1 := Lib.hid (fun W (k : Keeps w W) => word_any _ a W (h1.below k) (by omega))
    have hw2 := Lib.hid (fun W (k : Keeps w W) => word_any _ b W (h2.below k) (by omega))
    by_cases ha : a < 1000000000000000000
    · have hbb : b < 1000000000000000000 := by omega
      have ew1 : wordV a = .tuple #[.int .u64 (a : Nat), .bool true] := if_pos ha
      have ew2 : wordV b = .tuple #[.int .u64 (b : Nat), .bool true] := if_pos hbb
      rw [ew1] at hw1
      rw [ew2] at hw2
      have aI : (a : Int) < 1000000000000000000 := by omega
      have bI : (b : Int) < 1000000000000000000 := by omega
      have b0 : ¬ b = 0 := hb
      have hqb := Nat.div_le_self a b
      have hrb := Nat.mod_lt a (show 0 < b by omega)
      have t1 : ((a : Int).tdiv (b : Int)) = ((a / b : Nat) : Int) := by rw [Int.natCast_ediv]; exact Int.tdiv_eq_ediv_of_nonneg (by omega)
      have t2 : ((a : Int).tmod (b : Int)) = ((a % b : Nat) : Int) := by rw [Int.natCast_emod]; exact IntWalk.rem_in _ _ (by omega)
      obtain ⟨G, hG⟩ : ∃ G, a / b = G := ⟨_, rfl⟩
      obtain ⟨R, hR⟩ : ∃ R, a % b = R := ⟨_, rfl⟩
      rw [hG] at t1 hqb
      rw [hR] at t2 hrb
      have g4 : IntKind.u64.wrap (G : Int) = (G : Int) := IntWalk.u64_in _ (by omega)
      have g5 : IntKind.u64.wrap (R : Int) = (R : Int) := IntWalk.u64_in _ (by omega)
      have HG := Lib.hid hG
      have HR := Lib.hid hR
      clear hG hR hL e1 e2 ew1 ew2 ha hbb
      go_enter Tryd.func73, Tryd.ntmps73
      go_wp2_with fail
      refine hc.out.mono ?_
      rintro e w1 ⟨rfl, hk1⟩
      go_wp2_with fail
      refine (hw1.out _ hk1).mono ?_
      rintro e w2 ⟨rfl, hk2⟩
      have k2 := hk1.trans' hk2
      go_wp2_with fail
      refine (hw2.out _ k2).mono ?_
      rintro e w3 ⟨rfl, hk3⟩
      have k3 := k2.trans' hk3
      go_wp2_with fail
      go_region_held3 (fun _ => True) (trivial)
        (first
          | (go_at_call_of 51 (Value.int IntKind.u64 (G : Int)); refine (split_any G _ (by omega)).mono ?_; rintro e w4 ⟨v4, rfl, hu4, hk4⟩)
          | (go_at_call 51; refine (split_any R _ (by omega)).mono ?_; rintro e w5 ⟨v5, rfl, hu5, hk5⟩))
      have kd : Keeps w w3.drew := Below.drew k3
      go_wp2
      go_ret2
      exact ⟨_, _, rfl, by rw [HG.out]; exact hu4.below hk5, by rw [HR.out]; exact hu5, (kd.trans' hk4).trans' hk5⟩
    · have ew1 : wordV a = .tuple #[.int .u64 0, .bool false] := if_neg ha
      have hbig := big_len ha
      rw [ew1] at hw1
      obtain ⟨x2, y2, ew2⟩ : ∃ x y, wordV b = .tuple #[x, .bool y] := by unfold wordV; split <;> exact ⟨_, _, rfl⟩
      rw [ew2] at hw2
      have HA := Lib.hid hbig
      clear ha hbig ew1 ew2
      by_cases hone : m2 = 1
      · subst hone
        obtain ⟨p1, p2, p3⟩ := dig_one e2
        have hrow := Lib.hid (fun W (k : Keeps w W) => r2.below k)
        have hsh := Lib.hid (fun W (k : Keeps w W) => mshort_any _ a b W (h1.below k) (by omega) p1 p2)
        have P3 := Lib.hid p3
        have hrb := Nat.mod_lt a p1
        clear hL e1 e2 p3
        go_enter Tryd.func73, Tryd.ntmps73
        go_wp2_with fail
        refine hc.out.mono ?_
        rintro e w1 ⟨rfl, hk1⟩
        go_wp2_with fail
        refine (hw1.out _ hk1).mono ?_
        rintro e w2 ⟨rfl, hk2⟩
        have k2 := hk1.trans' hk2
        go_wp2_with fail
        refine (hw2.out _ k2).mono ?_
        rintro e w3 ⟨rfl, hk3⟩
        have k3 := k2.trans' hk3
        obtain ⟨bx, ox, rfl, hbl, hcell⟩ := (hrow.out _ k3) (by omega)
        have hx := hcell 0 (by omega)
        unfold u32 at hx
        rw [P3.out, ix_zero, Nat.add_zero] at hx
        clear hcell
        go_wp2_with fail
        refine (hsh.out _ k3).mono ?_
        rintro e w4 ⟨v4, rfl, hu4, hk4⟩
        obtain ⟨R, hR⟩ : ∃ R, a % b = R := ⟨_, rfl⟩
        rw [hR] at hrb
        rw [hR]
        have HR := Lib.hid hR
        have rI : (R : Int) < 1000000000 := by omega
        clear hR
        go_wp2_with fail
        refine (split_any R _ (by omega)).mono ?_
        rintro e w5 ⟨v5, rfl, hu5, hk5⟩
        go_wp2
        go_ret2
        exact ⟨_, _, rfl, hu4.below hk5, by rw [HR.out]; exact hu5, (k3.trans' hk4).trans' hk5⟩
      · have hne : ((m2 : Int) == 1) = false := by rw [beq_eq_false_iff_ne]; omega
        have hlo := Lib.hid (fun W (k : Keeps w W) => long_any _ _ a b W (h1.below k) (h2.below k) hl1 (by omega) hL)
        clear hL e1 e2 hone
        go_enter Tryd.func73, Tryd.ntmps73
        go_wp2_with fail
        refine hc.out.mono ?_
        rintro e w1 ⟨rfl, hk1⟩
        go_wp2_with fail
        refine (hw1.out _ hk1).mono ?_
        rintro e w2 ⟨rfl, hk2⟩
        have k2 := hk1.trans' hk2
        go_wp2_with fail
        refine (hw2.out _ k2).mono ?_
        rintro e w3 ⟨rfl, hk3⟩
        have k3 := k2.trans' hk3
        go_wp2_with fail
        refine (hlo.out _ k3).mono ?_
        rintro e w4 ⟨q4, r4, rfl, hu4, hu5, hk4⟩
        go_wp2
        go_ret2
        exact ⟨_, _, rfl, hu4, hu5, k3.trans' hk4⟩
end Go.Proofs.YthgbgoidnnfapaaDoor
