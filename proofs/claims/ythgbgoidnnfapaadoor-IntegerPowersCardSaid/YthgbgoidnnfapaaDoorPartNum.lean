/- Arithmetic of the reference's parts. No program in sight. -/
import Derived.Test.YthgbgoidnnfapaaDoorDivNum
namespace Go.Proofs.YthgbgoidnnfapaaDoor

theorem val_drop_dig (w i : Nat) : val ((dig w).drop i) = w / 1000000000 ^ i := by
  have h := wv_rest (dig w) 0 i
  rw [List.drop_zero, val_dig, wv_low, Nat.zero_add] at h
  have hl : val ((dig w).take i) < 1000000000 ^ i := by rw [← wv_low]; exact wv_lt (AllB.dig w) 0 i
  have hp : 0 < 1000000000 ^ i := Nat.pow_pos (by omega)
  have e : w / 1000000000 ^ i = (val ((dig w).take i) + 1000000000 ^ i * val ((dig w).drop i)) / 1000000000 ^ i := congrArg (· / 1000000000 ^ i) h
  rw [e, Nat.add_mul_div_left _ _ hp, Nat.div_eq_of_lt hl, Nat.zero_add]
/-- the two first groups of a number of at most n + 1 groups -/
theorem two_groups {w n : Nat} (hn : 1 ≤ n) (hw : w < 1000000000 ^ (n + 1)) : ix (dig w) n * 1000000000 + ix (dig w) (n - 1) = w / 1000000000 ^ (n - 1) := by
  have h := wv_rest (dig w) (n - 1) 2
  rw [val_drop_dig, wv_succ, wv_succ, wv_zero, show n - 1 + 2 = n + 1 by omega, show n - 1 + 1 = n by omega, Nat.add_zero, val_drop_dig, Nat.div_eq_of_lt hw] at h
  omega
theorem one_group {y n : Nat} (hn : 1 ≤ n) (hy : y < 1000000000 ^ n) : ix (dig y) (n - 1) = y / 1000000000 ^ (n - 1) := by
  have h := wv_rest (dig y) (n - 1) 1
  rw [val_drop_dig, wv_succ, wv_zero, show n - 1 + 1 = n by omega, Nat.add_zero, val_drop_dig, Nat.div_eq_of_lt hy] at h
  omega
/-- the first guess is not too great -/
theorem guess_le {w y P : Nat} (hP : 0 < P) : (w / P) / (y / P + 1) * y ≤ w := by
  have h1 : y ≤ (y / P + 1) * P := by have := Nat.lt_div_mul_add (a := y) hP; rw [Nat.add_mul]; omega
  calc (w / P) / (y / P + 1) * y ≤ (w / P) / (y / P + 1) * ((y / P + 1) * P) := Nat.mul_le_mul_left _ h1
    _ = (w / P) / (y / P + 1) * (y / P + 1) * P := (Nat.mul_assoc _ _ _).symm
    _ ≤ w / P * P := Nat.mul_le_mul_right _ (Nat.div_mul_le_self _ _)
    _ ≤ w := Nat.div_mul_le_self _ _
theorem guess_lt {g w y : Nat} (h : g * y ≤ w) (hw : w < y * 1000000000) : g < 1000000000 := by
  apply Nat.lt_of_mul_lt_mul_right (a := y)
  rw [Nat.mul_comm 1000000000]; omega
theorem guess_done {g w y : Nat} (h : g * y ≤ w) (hw : w - g * y < y) : g = w / y ∧ w - g * y = w % y :=
  div_of (by omega) hw
/-- the factor -/
theorem factor_facts {y n f : Nat} (hn : 1 ≤ n) (hl : (dig y).length = n) (hy0 : y ≠ 0) (hf : f = 1000000000 / (ix (dig y) (n - 1) + 1)) :
    1 ≤ f ∧ f ≤ 500000000 ∧ (dig (y * f)).length = n := by
  have hlt : y < 1000000000 ^ n := by have := dig_lt y; rwa [hl] at this
  have hge := dig_ge hy0
  rw [hl] at hge
  have htop := dig_last hy0
  rw [hl] at htop
  have htb := (AllB.dig y).ix (n - 1)
  have h1 := one_group hn hlt
  have hP : 0 < 1000000000 ^ (n - 1) := Nat.pow_pos (by omega)
  generalize hg : ix (dig y) (n - 1) = g at *
  have hff : f * (g + 1) ≤ 1000000000 := by rw [hf]; exact Nat.div_mul_le_self _ _
  have hf1 : 1 ≤ f := by rw [hf]; exact (Nat.le_div_iff_mul_le (by omega)).2 (by omega)
  refine ⟨hf1, ?_, ?_⟩
  · have h2 : f * 2 ≤ f * (g + 1) := Nat.mul_le_mul_left _ (by omega)
    omega
  · have hup : y * f < 1000000000 ^ n := by
      have h2 : y < (g + 1) * 1000000000 ^ (n - 1) := by
        rw [h1, Nat.add_mul]; have := Nat.lt_div_mul_add (a := y) hP; omega
      have h3 : (g + 1) * f ≤ 1000000000 := by rw [Nat.mul_comm]; exact hff
      calc y * f < (g + 1) * 1000000000 ^ (n - 1) * f := Nat.mul_lt_mul_of_pos_right h2 hf1
        _ = (g + 1) * f * 1000000000 ^ (n - 1) := by rw [Nat.mul_assoc, Nat.mul_comm (1000000000 ^ (n - 1)) f, Nat.mul_assoc]
        _ ≤ 1000000000 * 1000000000 ^ (n - 1) := Nat.mul_le_mul_right _ h3
        _ = 1000000000 ^ n := by rw [Nat.mul_comm, ← Nat.pow_succ, Nat.succ_eq_add_one, Nat.sub_add_cancel hn]
    have := dig_length_le hup
    have h4 : y ≤ y * f := Nat.le_mul_of_pos_right _ hf1
    have := dig_length_mono h4
    omega
/-- one group more -/
theorem part_step {xs q : List Nat} {t Y r w g : Nat} (hY : 0 < Y) (ht : t < xs.length) (hq : t < q.length)
    (hr : r = val (xs.drop (t + 1)) % Y) (hv : val (q.drop (t + 1)) = val (xs.drop (t + 1)) / Y) (hw : w = r * 1000000000 + ix xs t) (hg : g = w / Y) :
    val ((q.set t g).drop t) = val (xs.drop t) / Y ∧ w % Y = val (xs.drop t) % Y := by
  have hx := val_drop xs t ht
  have e : xs.drop t = xs.drop t := rfl
  have hd : val ((q.set t g).drop t) = g + 1000000000 * val (q.drop (t + 1)) := by
    rw [val_drop _ t (by rw [List.length_set]; exact hq)]
    rw [ix_set _ _ _ _ hq, if_pos rfl, List.drop_set_of_lt (by omega)]
  have hm := Nat.div_add_mod (val (xs.drop (t + 1))) Y
  have hX : val (xs.drop t) = w + Y * (1000000000 * (val (xs.drop (t + 1)) / Y)) := by
    rw [hx, hw, hr]
    have h5 : val (xs.drop (t + 1)) * 1000000000 = (Y * (val (xs.drop (t + 1)) / Y) + val (xs.drop (t + 1)) % Y) * 1000000000 := by rw [hm]
    have h6 : Y * (1000000000 * (val (xs.drop (t + 1)) / Y)) = Y * (val (xs.drop (t + 1)) / Y) * 1000000000 := by rw [Nat.mul_comm 1000000000, Nat.mul_assoc]
    rw [h6]
    rw [Nat.add_mul] at h5
    omega
  constructor
  · rw [hd, hv, hX, Nat.add_mul_div_left _ _ hY, hg]
  · rw [hX, Nat.add_mul_mod_self_left]
/-- the end: the remainder is scaled back -/
theorem part_end {X Y f : Nat} (hf : 1 ≤ f) : X * f / (Y * f) = X / Y ∧ X * f % (Y * f) / f = X % Y := by
  constructor
  · exact Nat.mul_div_mul_right _ _ hf
  · rw [Nat.mul_mod_mul_right, Nat.mul_div_cancel _ hf]
end Go.Proofs.YthgbgoidnnfapaaDoor
