/- Decimal texts of naturals, digit by digit and group by group. No program in sight. -/
import Derived.Test.YthgbgoidnnfapaaDoorNum
import Derived.Lib.ItoaNum
namespace Go.Proofs.YthgbgoidnnfapaaDoor

def dch (x : Nat) : UInt8 := UInt8.ofNat (48 + x % 10)
/-- the k lowest decimal digits -/
def low : Nat → Nat → List UInt8
  | 0, _ => []
  | k + 1, x => low k (x / 10) ++ [dch x]
/-- the digits of a positive number, nothing for 0 -/
def txt (m : Nat) : List UInt8 := if m = 0 then [] else Lib.decDigits m
def textL (z : Int) : List UInt8 := if z = 0 then [48] else (if z < 0 then [45] else []) ++ Lib.decDigits z.natAbs

theorem low_length : ∀ k x, (low k x).length = k
  | 0, _ => rfl
  | k + 1, x => by rw [low, List.length_append, low_length k]; rfl
theorem low_zero : ∀ k, low k 0 = List.replicate k 48
  | 0 => rfl
  | k + 1 => by rw [low, show (0 : Nat) / 10 = 0 from rfl, low_zero k, List.replicate_succ']; rfl
theorem txt_step (m : Nat) (h : 0 < m) : txt m = txt (m / 10) ++ [dch m] := by
  unfold txt
  rw [if_neg (by omega), Lib.decDigits]
  by_cases h10 : m < 10
  · rw [dif_pos h10, if_pos (by omega)]
    simp [dch, Nat.mod_eq_of_lt h10]
  · rw [dif_neg h10, if_neg (by omega)]; rfl
theorem txt_group : ∀ (k V x : Nat), 0 < V → x < 10 ^ k → txt (V * 10 ^ k + x) = txt V ++ low k x
  | 0, V, x, _, hx => by
    obtain rfl : x = 0 := by simpa using hx
    simp [low]
  | k + 1, V, x, hV, hx => by
    have hp : 0 < V * 10 ^ (k + 1) := Nat.mul_pos hV (Nat.pow_pos (by omega))
    rw [txt_step _ (by omega), low]
    have e1 : (V * 10 ^ (k + 1) + x) / 10 = V * 10 ^ k + x / 10 := by
      rw [Nat.pow_succ, ← Nat.mul_assoc, Nat.mul_comm (V * 10 ^ k) 10, Nat.mul_add_div (by omega)]
    have e2 : dch (V * 10 ^ (k + 1) + x) = dch x := by
      unfold dch
      rw [Nat.pow_succ, ← Nat.mul_assoc, Nat.mul_comm (V * 10 ^ k) 10, Nat.mul_add_mod]
    rw [e1, e2, txt_group k V (x / 10) hV (by rw [Nat.pow_succ] at hx; omega), List.append_assoc]
theorem pad_low : ∀ (k x : Nat), x < 10 ^ k → 0 < k → List.replicate (k - (Lib.decDigits x).length) 48 ++ Lib.decDigits x = low k x
  | k + 1, x, hx, _ => by
    rw [low]
    by_cases h10 : x < 10
    · rw [Lib.decDigits, dif_pos h10, show x / 10 = 0 by omega, low_zero]
      simp [dch, Nat.mod_eq_of_lt h10]
    · rw [Lib.decDigits, dif_neg h10]
      have hk : 0 < k := Nat.pos_of_ne_zero fun e => by subst e; simp at hx; omega
      rw [← pad_low k (x / 10) (by rw [Nat.pow_succ] at hx; omega) hk]
      simp only [List.length_append, List.length_cons, List.length_nil, List.append_assoc]
      rw [show k + 1 - ((Lib.decDigits (x / 10)).length + (0 + 1)) = k - (Lib.decDigits (x / 10)).length by omega]
      rfl
theorem low_cons : ∀ (k x : Nat), low (k + 1) x = dch (x / 10 ^ k) :: low k x
  | 0, x => by simp [low]
  | k + 1, x => by
    rw [low, low_cons k (x / 10), low, Nat.div_div_eq_div_mul, Nat.pow_succ, Nat.mul_comm (10 ^ k) 10]
    rfl
theorem decDigits_len (x : Nat) (h : x < 1000000000) : (Lib.decDigits x).length ≤ 9 ∧ 0 < (Lib.decDigits x).length := by
  have h1 := congrArg List.length (pad_low 9 x (by omega) (by omega))
  rw [List.length_append, List.length_replicate, low_length] at h1
  refine ⟨by omega, ?_⟩
  rw [Lib.decDigits]
  split <;> simp
theorem txt_pos (m : Nat) (h : m ≠ 0) : txt m = Lib.decDigits m := if_neg h
theorem txt_pad (V x : Nat) (hV : 0 < V) (hx : x < 1000000000) : txt (V * 1000000000 + x) = txt V ++ (List.replicate (9 - (Lib.decDigits x).length) 48 ++ Lib.decDigits x) := by
  rw [pad_low 9 x (by omega) (by omega), ← txt_group 9 V x hV (by omega)]
theorem drop_pos (m q : Nat) (h : q < (dig m).length) : 0 < val ((dig m).drop q) := by
  rcases Nat.eq_zero_or_pos (val ((dig m).drop q)) with h0 | h0
  · have h1 := val_split (dig m) q (by omega)
    rw [h0, Nat.mul_zero, Nat.add_zero, val_dig] at h1
    have h2 := val_lt ((AllB.dig m).take q)
    rw [List.length_take, Nat.min_eq_left (by omega), ← h1] at h2
    have h3 := dig_length_le h2
    omega
  · exact h0
theorem txt_len : ∀ (K m : Nat), m < 10 ^ K → (txt m).length ≤ K
  | 0, m, h => by
    obtain rfl : m = 0 := by simpa using h
    simp [txt]
  | K + 1, m, h => by
    rcases Nat.eq_zero_or_pos m with rfl | hp
    · simp [txt]
    · rw [txt_step m hp, List.length_append]
      have := txt_len K (m / 10) (by rw [Nat.pow_succ] at h; omega)
      simp only [List.length_cons, List.length_nil]
      omega
theorem txt_drop_len (m j : Nat) : (txt (val ((dig m).drop j))).length ≤ 9 * (dig m).length := by
  have h := val_lt ((AllB.dig m).drop j)
  have h2 := txt_len (9 * ((dig m).drop j).length) _ (by rw [Nat.pow_mul]; exact h)
  rw [List.length_drop] at h2
  omega
def padN (k L : Nat) : Nat := if k = 0 then 0 else 9 - L
theorem txt_round (m n k q : Nat) (hn : (dig m).length = n) (hk : k < n) (hq : n - 1 - k = q) :
    txt (val ((dig m).drop (n - (k + 1)))) = txt (val ((dig m).drop (n - k))) ++ (List.replicate (padN k (Lib.decDigits (ix (dig m) q)).length) 48 ++ Lib.decDigits (ix (dig m) q)) := by
  have hd := val_drop (dig m) q (by omega)
  rw [show n - (k + 1) = q by omega, hd, show n - k = q + 1 by omega]
  unfold padN
  by_cases h0 : k = 0
  · have h1 : val ((dig m).drop (q + 1)) = 0 := by rw [List.drop_of_length_le (by omega)]; simp [val]
    have h2 := drop_pos m q (by omega)
    rw [hd, h1] at h2
    rw [if_pos h0, h1, Nat.mul_zero, Nat.add_zero, txt_pos _ (by omega)]
    simp [txt]
  · rw [if_neg h0, Nat.add_comm, Nat.mul_comm, txt_pad _ _ (drop_pos m (q + 1) (by omega)) ((AllB.dig m).ix q)]
end Go.Proofs.YthgbgoidnnfapaaDoor
