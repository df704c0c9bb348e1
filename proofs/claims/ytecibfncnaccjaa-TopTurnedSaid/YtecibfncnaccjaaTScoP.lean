/- The scores of pixels: sums and bounds. No program in sight. -/
import Derived.Test.YtecibfncnaccjaaTopP
namespace Go.Proofs.Ytecibfncnaccjaa

theorem mul_bd {g k : Int} (h1 : -1023 ≤ g ∧ g ≤ 1023) (h2 : -1023 ≤ k ∧ k ≤ 1023) : -1046529 ≤ g * k ∧ g * k ≤ 1046529 := by
  have h : (g * k).natAbs ≤ 1023 * 1023 := by
    rw [Int.natAbs_mul]
    exact Nat.mul_le_mul (by omega) (by omega)
  omega
theorem sq_nn (g : Int) : 0 ≤ g * g := by
  rcases Int.le_total 0 g with h | h
  · exact Int.mul_nonneg h h
  · rw [← Int.neg_mul_neg]
    exact Int.mul_nonneg (by omega) (by omega)
theorem sum_bd {p : Nat → Nat → Int} {x y : Nat} (h : ∀ r t, r < 3 → t < 3 → (-1023 ≤ gX p (x - 1 + r) (y - 1 + t) ∧ gX p (x - 1 + r) (y - 1 + t) ≤ 1023) ∧ (-1023 ≤ gY p (x - 1 + r) (y - 1 + t) ∧ gY p (x - 1 + r) (y - 1 + t) ≤ 1023)) :
    ∀ n, n ≤ 9 → (0 ≤ sA p x y n ∧ sA p x y n ≤ 1046529 * n) ∧ (-(1046529 * (n : Int)) ≤ sB p x y n ∧ sB p x y n ≤ 1046529 * n) ∧ (0 ≤ sC p x y n ∧ sC p x y n ≤ 1046529 * n) := by
  intro n
  induction n with
  | zero => intro _; simp [sA, sB, sC]
  | succ n ih =>
    intro hn
    obtain ⟨h1, h2, h3⟩ := ih (by omega)
    obtain ⟨hx, hy⟩ := h (n % 3) (n / 3) (Nat.mod_lt _ (by decide)) (by omega)
    have a1 := mul_bd hx hx
    have a2 := mul_bd hx hy
    have a3 := mul_bd hy hy
    have b1 := sq_nn (gX p (x - 1 + n % 3) (y - 1 + n / 3))
    have b3 := sq_nn (gY p (x - 1 + n % 3) (y - 1 + n / 3))
    rw [sA, sB, sC]
    omega
theorem idx_inj {W x y i j : Nat} (hx : x < W) (hi : i < W) (h : j * W + i = y * W + x) : i = x ∧ j = y := by
  have h1 := congrArg (· % W) h
  have h2 := congrArg (· / W) h
  simp only [idx_mod hx, idx_mod hi, idx_div hx, idx_div hi] at h1 h2
  exact ⟨h1, h2⟩
theorem madeL_set {W H x y : Nat} (f : Nat → Nat → Int) (v : Int) (hx : x < W) (hy : y < H) : (madeL W H f).set (y * W + x) v = madeL W H fun i j => if i = x ∧ j = y then v else f i j := by
  apply List.ext_getElem
  · simp [madeL_length]
  · intro k h1 h2
    have hk : k < W * H := by rw [madeL_length] at h2; exact h2
    have hW : 0 < W := by omega
    have e1 : (madeL W H f)[k]'(by rw [madeL_length]; exact hk) = f (k % W) (k / W) := by simp [madeL]
    have e2 : (madeL W H fun i j => if i = x ∧ j = y then v else f i j)[k]'h2 = if k % W = x ∧ k / W = y then v else f (k % W) (k / W) := by simp [madeL]
    rw [List.getElem_set, e1, e2]
    by_cases h : y * W + x = k
    · rw [if_pos h, if_pos (by subst h; exact ⟨idx_mod hx, idx_div hx⟩)]
    · rw [if_neg h, if_neg]
      rintro ⟨rfl, rfl⟩
      exact h (by rw [Nat.mul_comm]; exact Nat.div_add_mod k W)
/-- one more score -/
theorem scoN_set {W H x y : Nat} (l : List Int) (hx : x < W) (hy : y < H) (hi : inI W H x y = true) : (scoN W H l (y * W + x)).set (y * W + x) (scP (pxL l W) x y) = scoN W H l (y * W + x + 1) := by
  unfold scoN
  rw [madeL_set _ _ hx hy]
  refine madeL_congr fun i j hi' hj => ?_
  by_cases h : i = x ∧ j = y
  · obtain ⟨rfl, rfl⟩ := h
    rw [if_pos ⟨rfl, rfl⟩, hi, decide_eq_true (by omega)]
    rfl
  · rw [if_neg h]
    have hne : j * W + i ≠ y * W + x := fun e => h (idx_inj hx hi' e)
    have : decide (j * W + i < y * W + x) = decide (j * W + i < y * W + x + 1) := by
      rw [decide_eq_decide]
      omega
    rw [this]
/-- nothing between two places -/
theorem scoN_skip {W H : Nat} (l : List Int) {n k : Nat} (hnk : n ≤ k) (h : ∀ x y, x < W → y < H → inI W H x y = true → ¬ (n ≤ y * W + x ∧ y * W + x < k)) : scoN W H l n = scoN W H l k := by
  unfold scoN
  refine madeL_congr fun i j hi hj => ?_
  cases hin : inI W H i j with
  | false => rw [Bool.and_false, Bool.and_false]
  | true =>
    have := h i j hi hj hin
    have : decide (j * W + i < n) = decide (j * W + i < k) := by
      rw [decide_eq_decide]
      omega
    rw [this]
theorem scoN_zero {W H : Nat} (l : List Int) : scoN W H l (2 * W + 2) = List.replicate (W * H) 0 := by
  have h : scoN W H l (2 * W + 2) = madeL W H fun _ _ => 0 := madeL_congr fun x y hx hy => by
    cases hin : inI W H x y with
    | false => rw [Bool.and_false]; rfl
    | true =>
      have h1 : 2 ≤ x ∧ x + 2 < W ∧ 2 ≤ y ∧ y + 2 < H := of_decide_eq_true hin
      have : 2 * W ≤ y * W := Nat.mul_le_mul_right W h1.2.2.1
      rw [decide_eq_false (by omega)]
      rfl
  rw [h]
  apply List.ext_getElem
  · simp [madeL_length]
  · intro k h1 h2
    simp [madeL]
theorem row_le {W a b : Nat} (h : a ≤ b) : a * W ≤ b * W := Nat.mul_le_mul_right W h
/-- behind a row: the next one begins -/
theorem scoN_row {W H x y : Nat} (l : List Int) (hx : 2 ≤ x) (hw : W ≤ x + 2) : scoN W H l (y * W + x) = scoN W H l (y * W + x + (W + 2 - x)) := by
  refine scoN_skip l (by omega) fun i j hi hj hin => ?_
  have h1 : 2 ≤ i ∧ i + 2 < W ∧ 2 ≤ j ∧ j + 2 < H := of_decide_eq_true hin
  rcases Nat.lt_trichotomy j y with h | h | h
  · have := row_le (W := W) (show j + 1 ≤ y by omega)
    rw [Nat.add_mul, Nat.one_mul] at this
    omega
  · subst h
    omega
  · have := row_le (W := W) (show y + 1 ≤ j by omega)
    rw [Nat.add_mul, Nat.one_mul] at this
    omega
theorem scoN_end {W H y : Nat} (l : List Int) (hh : H ≤ y + 2) : scoN W H l (y * W + 2) = scoL W H l := by
  rw [← scoN_all W H l (Nat.le_max_right (y * W + 2) (W * H))]
  refine scoN_skip l (Nat.le_max_left _ _) fun i j hi hj hin => ?_
  have h1 : 2 ≤ i ∧ i + 2 < W ∧ 2 ≤ j ∧ j + 2 < H := of_decide_eq_true hin
  have := row_le (W := W) (show j + 1 ≤ y by omega)
  rw [Nat.add_mul, Nat.one_mul] at this
  omega
theorem sA_succ (p : Nat → Nat → Int) (X Y q r : Nat) (hr : r < 3) : sA p (X + 1) (Y + 1) (3 * q + r + 1) = sA p (X + 1) (Y + 1) (3 * q + r) + gX p (X + r) (Y + q) * gX p (X + r) (Y + q) := by
  rw [sA, show (3 * q + r) % 3 = r by omega, show (3 * q + r) / 3 = q by omega]
  rfl
theorem sB_succ (p : Nat → Nat → Int) (X Y q r : Nat) (hr : r < 3) : sB p (X + 1) (Y + 1) (3 * q + r + 1) = sB p (X + 1) (Y + 1) (3 * q + r) + gX p (X + r) (Y + q) * gY p (X + r) (Y + q) := by
  rw [sB, show (3 * q + r) % 3 = r by omega, show (3 * q + r) / 3 = q by omega]
  rfl
theorem sC_succ (p : Nat → Nat → Int) (X Y q r : Nat) (hr : r < 3) : sC p (X + 1) (Y + 1) (3 * q + r + 1) = sC p (X + 1) (Y + 1) (3 * q + r) + gY p (X + r) (Y + q) * gY p (X + r) (Y + q) := by
  rw [sC, show (3 * q + r) % 3 = r by omega, show (3 * q + r) / 3 = q by omega]
  rfl
theorem scoV_bd {a b c : Int} (h1 : 0 ≤ a ∧ a ≤ 9418761) (h2 : -9418761 ≤ b ∧ b ≤ 9418761) (h3 : 0 ≤ c ∧ c ≤ 9418761) : (0 ≤ a * c ∧ a * c ≤ 88713058775121) ∧ (0 ≤ b * b ∧ b * b ≤ 88713058775121) ∧ (0 ≤ (a + c) * (a + c) ∧ (a + c) * (a + c) ≤ 354852235100484) := by
  have e1 : (a * c).natAbs ≤ 9418761 * 9418761 := by
    rw [Int.natAbs_mul]
    exact Nat.mul_le_mul (by omega) (by omega)
  have e2 : (b * b).natAbs ≤ 9418761 * 9418761 := by
    rw [Int.natAbs_mul]
    exact Nat.mul_le_mul (by omega) (by omega)
  have e3 : ((a + c) * (a + c)).natAbs ≤ 18837522 * 18837522 := by
    rw [Int.natAbs_mul]
    exact Nat.mul_le_mul (by omega) (by omega)
  have n1 := Int.mul_nonneg h1.1 h3.1
  have n2 := sq_nn b
  have n3 := sq_nn (a + c)
  omega
end Go.Proofs.Ytecibfncnaccjaa
