/- Division by one group: plain arithmetic; the binary logarithm. -/
import Derived.Test.YthgbgoidnnfapaaDoorNum
namespace Go.Proofs.YthgbgoidnnfapaaDoor

theorem cast_md (r x d : Nat) : ((r : Int) * 1000000000 + (x : Int)) % (d : Int) = (((r * 1000000000 + x) % d : Nat) : Int) := by
  rw [Int.natCast_emod, Int.natCast_add, Int.natCast_mul]; rfl
theorem cast_dv (r x d : Nat) : ((r : Int) * 1000000000 + (x : Int)) / (d : Int) = (((r * 1000000000 + x) / d : Nat) : Int) := by
  rw [Int.natCast_ediv, Int.natCast_add, Int.natCast_mul]; rfl
theorem short_step (Q r d x : Nat) (hd : 0 < d) :
    (x + 1000000000 * (d * Q + r)) / d = (r * 1000000000 + x) / d + 1000000000 * Q ∧ (x + 1000000000 * (d * Q + r)) % d = (r * 1000000000 + x) % d := by
  have e : x + 1000000000 * (d * Q + r) = (r * 1000000000 + x) + d * (1000000000 * Q) := by grind
  rw [e]
  exact ⟨Nat.add_mul_div_left _ _ hd, Nat.add_mul_mod_self_left _ _ _⟩
theorem short_lt (r d x : Nat) (hr : r < d) (hx : x < 1000000000) : (r * 1000000000 + x) / d < 1000000000 := by
  rw [Nat.div_lt_iff_lt_mul (by omega)]
  have := Nat.mul_le_mul_right 1000000000 (show r + 1 ≤ d from hr)
  omega
/-- what the loop's step does to the whole -/
theorem short_val {xs out : List Nat} {q d r n : Nat} (hd : 0 < d) (hn : xs.length = n) (ho : out.length = n) (hq : q < n) (hr : r = val (xs.drop (q + 1)) % d) (hv : val (out.drop (q + 1)) = val (xs.drop (q + 1)) / d) :
    (r * 1000000000 + ix xs q) % d = val (xs.drop q) % d ∧ val ((out.set q ((r * 1000000000 + ix xs q) / d)).drop q) = val (xs.drop q) / d := by
  have e := Nat.div_add_mod (val (xs.drop (q + 1))) d
  have h1 := val_drop xs q (by omega)
  have h2 := short_step (val (xs.drop (q + 1)) / d) r d (ix xs q) hd
  rw [← hr] at e
  rw [e] at h2
  rw [← h1] at h2
  refine ⟨h2.2.symm, ?_⟩
  rw [val_drop (out.set q _) q (by simpa [ho] using hq), ix_set out q _ q (by omega), if_pos rfl, List.drop_set_of_lt (by omega), hv, h2.1]

/-- the greatest k with 2^k at most m, -1 for 0 -/
def log2 (m : Nat) : Int := if m = 0 then -1 else (Nat.log2 m : Nat)
theorem log2_zero : log2 0 = -1 := rfl
theorem log2_pos {m : Nat} (h : m ≠ 0) : log2 m = (Nat.log2 m : Nat) := if_neg h
theorem log2_is {m k : Nat} (h1 : 2 ^ k ≤ m) (h2 : m < 2 ^ (k + 1)) : log2 m = (k : Nat) := by
  have h0 : m ≠ 0 := by have := Nat.two_pow_pos k; omega
  rw [log2_pos h0, (Nat.log2_eq_iff h0).2 ⟨h1, h2⟩]
theorem log2_half {m : Nat} (h : m ≠ 0) : log2 m = log2 (m / 2) + 1 := by
  rw [log2_pos h]
  by_cases h2 : m / 2 = 0
  · have : m = 1 := by omega
    subst this; rfl
  · rw [log2_pos h2]
    have := Nat.log2_def m
    rw [if_pos (by omega)] at this
    omega
theorem log2_shift : ∀ (k m : Nat), 2 ^ k ≤ m → log2 m = log2 (m / 2 ^ k) + k
  | 0, m, _ => by simp
  | k + 1, m, h => by
    have hp := Nat.two_pow_pos k
    rw [Nat.pow_succ] at h
    rw [log2_half (by omega), log2_shift k (m / 2) (by omega), Nat.div_div_eq_div_mul, Nat.pow_succ, Nat.mul_comm 2]
    omega
theorem log2_ge (m : Nat) : -1 ≤ log2 m := by unfold log2; split <;> omega
theorem log2_lt {m K : Nat} (h : m < 2 ^ K) : log2 m < (K : Nat) := by
  by_cases h0 : m = 0
  · subst h0; rw [log2_zero]; omega
  · rw [log2_pos h0]
    have := (Nat.log2_lt h0).2 h
    omega
theorem log2_len (m : Nat) : log2 m < 30 * (dig m).length := by
  have h1 := dig_lt m
  have h2 : 1000000000 ^ (dig m).length ≤ (2 ^ 30) ^ (dig m).length := Nat.pow_le_pow_left (by omega) _
  rw [← Nat.pow_mul] at h2
  exact log2_lt (Nat.lt_of_lt_of_le h1 h2)
theorem log2_29 {r : Nat} (h : 1 < (dig r).length) : log2 r = log2 (r / 536870912) + 29 := by
  have h1 := dig_ge (n := r) (by intro e; rw [e, dig_zero] at h; simp at h)
  have h2 : 1000000000 ^ 1 ≤ 1000000000 ^ ((dig r).length - 1) := Nat.pow_le_pow_right (by omega) (by omega)
  exact log2_shift 29 r (by omega)
theorem ix_small {r : Nat} (h : (dig r).length ≤ 1) : ix (dig r) 0 = r := by
  by_cases h0 : r = 0
  · subst h0; rw [dig_zero]; rfl
  · have := dig_lt r
    have h2 : 1000000000 ^ (dig r).length ≤ 1000000000 ^ 1 := Nat.pow_le_pow_right (by omega) h
    rw [dig_small h0 (by omega)]; rfl
end Go.Proofs.YthgbgoidnnfapaaDoor
