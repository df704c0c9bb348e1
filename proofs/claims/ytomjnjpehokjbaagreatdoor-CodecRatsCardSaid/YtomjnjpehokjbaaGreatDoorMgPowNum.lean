/- The number of decimal digits; powers. No program in sight. Square roots: what Newton's step and halving make of them. No program in sight. The walk of Root. The walks of digits and of the reference's Digits. The walk of Power. The walk of the reference's Digits. -/
import Derived.Test.YtomjnjpehokjbaaGreatDoorMgNum
import Derived.Test.YtomjnjpehokjbaaGreatDoorMgOver
import Derived.Test.YtomjnjpehokjbaaGreatDoorMgIntA
import Derived.Deep.LoopGhost
import Derived.Test.YtomjnjpehokjbaaGreatDoorMgText
namespace Go.Proofs.YtomjnjpehokjbaaGreatDoor
open Go

/-- the number of decimal digits of a magnitude, 0 for 0 -/
def dgs (m : Nat) : Nat := if m = 0 then 0 else Lib.nDigits m
theorem dgs_zero : dgs 0 = 0 := rfl
theorem dgs_ten {m : Nat} (h : m ≠ 0) : dgs m = dgs (m / 10) + 1 := by
  unfold dgs
  rw [if_neg h]
  by_cases h10 : m < 10
  · rw [if_pos (by omega), Lib.nDigits_small h10]
  · rw [if_neg (by omega), Lib.nDigits_big h10]
theorem dgs_low : ∀ (k : Nat) (m : Nat), 10 ^ k ≤ m → dgs m = dgs (m / 10 ^ k) + k
  | 0, m, _ => by simp
  | k + 1, m, h => by
    have h1 : m ≠ 0 := by have : 0 < 10 ^ (k + 1) := Nat.pow_pos (by omega); omega
    rw [dgs_ten h1, dgs_low k (m / 10) (by rw [Nat.le_div_iff_mul_le (by omega)]; rw [Nat.pow_succ] at h; omega), Nat.div_div_eq_div_mul, show 10 * 10 ^ k = 10 ^ (k + 1) by rw [Nat.pow_succ, Nat.mul_comm]]
    omega
theorem dgs_lt : ∀ (k m : Nat), dgs m ≤ k → m < 10 ^ k
  | 0, m, h => by
    by_cases h0 : m = 0
    · subst h0; simp
    · rw [dgs_ten h0] at h; omega
  | k + 1, m, h => by
    by_cases h0 : m = 0
    · subst h0; exact Nat.pow_pos (by omega)
    · rw [dgs_ten h0] at h
      have := dgs_lt k (m / 10) (by omega)
      rw [Nat.pow_succ]
      omega
/-- by groups: nine for each but the last, and the digits of the last -/
theorem dgs_groups (m : Nat) (h : m ≠ 0) : dgs m = 9 * ((dig m).length - 1) + dgs (ix (dig m) ((dig m).length - 1)) := by
  induction m using Nat.strongRecOn with
  | _ m ih =>
    by_cases hs : m < 1000000000
    · rw [dig_small h hs]; simp [ix]
    · have h2 : m / 1000000000 ≠ 0 := by omega
      have hi := ih (m / 1000000000) (by omega) h2
      have hl := dgs_low 9 m (by omega)
      rw [show (10 : Nat) ^ 9 = 1000000000 from rfl] at hl
      have hp := dig_length_pos.2 h2
      rw [dig_pos h, hl, hi]
      rw [List.length_cons, show (dig (m / 1000000000)).length + 1 - 1 = ((dig (m / 1000000000)).length - 1) + 1 by omega, ix_succ]
      omega
theorem dgs_dec (m : Nat) (h : m ≠ 0) : dgs m = (Lib.decDigits m).length := by rw [Lib.decDigits_length]; exact if_neg h
theorem dgs_len (m : Nat) : dgs m ≤ 9 * (dig m).length := by
  by_cases h : m = 0
  · subst h; simp [dgs]
  · have hp := dig_length_pos.2 h
    have hx := (AllB.dig m).ix ((dig m).length - 1)
    have hd : dgs (ix (dig m) ((dig m).length - 1)) ≤ 9 := by
      by_cases h0 : ix (dig m) ((dig m).length - 1) = 0
      · rw [h0]; simp [dgs]
      · rw [dgs_dec _ h0]; exact (decDigits_len _ hx).1
    rw [dgs_groups m h]
    omega
theorem pow_lt_of (m k D : Nat) (h : m < 10 ^ D) : m ^ k < 10 ^ (D * k) ∨ k = 0 := by
  rcases Nat.eq_zero_or_pos k with h0 | h0
  · exact .inr h0
  · left
    rw [Nat.pow_mul]
    exact Nat.pow_lt_pow_left h (by omega)
/-- the length of a power -/
theorem pow_len' (m k n K : Nat) (hK : 2300 ≤ K) (hk : k ≤ n) (h : n * dgs m ≤ 20000) : (dig (m ^ k)).length ≤ K := by
  rcases pow_lt_of m k (dgs m) (dgs_lt _ _ (Nat.le_refl _)) with h1 | h1
  · refine dig_length_le (Nat.lt_of_lt_of_le h1 ?_)
    have h2 : dgs m * k ≤ 20000 := Nat.le_trans (Nat.mul_le_mul_left _ hk) (by rw [Nat.mul_comm]; exact h)
    have h3 : dgs m * k ≤ 9 * K := by omega
    clear h1
    rw [show (1000000000 : Nat) = 10 ^ 9 from rfl, ← Nat.pow_mul]
    exact Nat.pow_le_pow_right (by decide) h3
  · subst h1
    exact Nat.le_trans (dig_length_le (k := 1) (by simp)) (by omega)
theorem pow_len (m k n : Nat) (hk : k ≤ n) (h : n * dgs m ≤ 20000) : (dig (m ^ k)).length ≤ 2300 := by
  obtain ⟨K, hK⟩ : ∃ K, 2300 = K := ⟨_, rfl⟩
  rw [hK]
  exact pow_len' m k n K (by omega) hk h
theorem pow_len2 (m a n : Nat) (hk : 2 * a ≤ n) (h : n * dgs m ≤ 20000) : (dig (m ^ a * m ^ a)).length ≤ 2300 := by
  rw [← Nat.pow_add]; exact pow_len m (a + a) n (by omega) h
/-- one step of squaring -/
theorem bit_step (n j : Nat) : n / 2 ^ j = 2 * (n / 2 ^ (j + 1)) + n / 2 ^ j % 2 := by
  rw [Nat.pow_succ, ← Nat.div_div_eq_div_mul]
  have := Nat.div_add_mod (n / 2 ^ j) 2
  omega
theorem and_bit (n j : Nat) : n &&& 2 ^ j = if n / 2 ^ j % 2 = 1 then 2 ^ j else 0 := by
  have h : (n &&& 2 ^ j) = if n.testBit j then 2 ^ j else 0 := by
    apply Nat.eq_of_testBit_eq
    intro i
    rw [Nat.testBit_and, Nat.testBit_two_pow]
    by_cases h : n.testBit j <;> by_cases hj : j = i <;> simp_all
  rw [h, Nat.testBit_eq_decide_div_mod_eq]
  by_cases h : n / 2 ^ j % 2 = 1 <;> simp [h]
end Go.Proofs.YtomjnjpehokjbaaGreatDoor

namespace Go.Proofs.YtomjnjpehokjbaaGreatDoor

theorem sq_nonneg' (x : Int) : 0 ≤ x * x := by
  rcases Int.le_total 0 x with h | h
  · exact Int.mul_nonneg h h
  · exact Int.mul_nonneg_of_nonpos_of_nonpos h h
/-- a step from any positive number stays above the root -/
theorem newton_above (a r : Nat) (hr : 0 < r) : a < ((r + a / r) / 2 + 1) * ((r + a / r) / 2 + 1) := by
  have h1 : a < (a / r + 1) * r := by have := Nat.div_add_mod a r; have := Nat.mod_lt a hr; rw [Nat.add_mul, Nat.mul_comm (a / r) r]; omega
  generalize a / r = q at *
  have h2 : r + q + 1 ≤ 2 * ((r + q) / 2 + 1) := by omega
  generalize (r + q) / 2 + 1 = n at *
  have h3 := sq_nonneg' ((r : Int) - (q + 1))
  have h4 : (r + q + 1) * (r + q + 1) ≤ (2 * n) * (2 * n) := Nat.mul_le_mul h2 h2
  have h5 : 4 * ((q + 1) * r) ≤ (r + q + 1) * (r + q + 1) := by
    have : (4 * (((q : Int) + 1) * r)) ≤ ((r : Int) + q + 1) * (r + q + 1) := by grind
    exact_mod_cast this
  have h6 : (2 * n) * (2 * n) = 4 * (n * n) := by grind
  omega
/-- where the step does not lower the number, its square is not greater -/
theorem newton_stop (a r : Nat) (h : r ≤ (r + a / r) / 2) : r * r ≤ a := by
  have h1 : r ≤ a / r := by omega
  exact Nat.le_trans (Nat.mul_le_mul_right r h1) (Nat.div_mul_le_self a r)
theorem newton_pos (a r : Nat) (ha : 0 < a) (hr : 0 < r) : 0 < (r + a / r) / 2 := by
  have h := newton_above a r hr
  generalize (r + a / r) / 2 = n at *
  rcases Nat.eq_zero_or_pos n with h0 | h0
  · subst h0; omega
  · exact h0
/-- the root of an integer; 0 where it is negative -/
def IsRoot (z : Int) (s : Nat) : Prop := if z < 0 then s = 0 else (s : Int) * s ≤ z ∧ z < ((s : Int) + 1) * (s + 1)
theorem root_unique {z : Int} {s t : Nat} (h1 : IsRoot z s) (h2 : IsRoot z t) : s = t := by
  unfold IsRoot at h1 h2
  split at h1
  · rw [if_pos (by assumption)] at h2; omega
  · rw [if_neg (by assumption)] at h2
    have key : ∀ a b : Nat, (a : Int) * a ≤ z → z < ((b : Int) + 1) * (b + 1) → a ≤ b := by
      intro a b ha hb
      rcases Nat.lt_or_ge b a with h | h
      · have h3 : ((b : Int) + 1) * (b + 1) ≤ (a : Int) * a := Int.mul_le_mul (by omega) (by omega) (by omega) (by omega)
        omega
      · exact h
    have g1 := key s t h1.1 h2.2
    have g2 := key t s h2.1 h1.2
    omega
theorem IsRoot.of_nat {a s : Nat} (h1 : s * s ≤ a) (h2 : a < (s + 1) * (s + 1)) : IsRoot a s := by
  unfold IsRoot
  rw [if_neg (by omega)]
  exact ⟨by exact_mod_cast h1, by exact_mod_cast h2⟩
theorem IsRoot.zero : IsRoot 0 0 := by unfold IsRoot; rw [if_neg (by omega)]; omega
theorem IsRoot.neg {z : Int} (h : z < 0) : IsRoot z 0 := by unfold IsRoot; rw [if_pos h]
/-- the start of Newton's iteration -/
theorem start_val (k : Nat) : val (List.replicate k 0 ++ [1]) = 1000000000 ^ k := by
  rw [val_snoc, val_replicate, List.length_replicate]; omega
theorem start_dig (k : Nat) : dig (1000000000 ^ k) = List.replicate k 0 ++ [1] := by
  have h := dig_of (xs := List.replicate k 0 ++ [1]) ((AllB.replicate k).append (AllB.single (by omega))) (fun _ => by simp [ix])
  rwa [start_val] at h
theorem start_above (a : Nat) : a < (1000000000 ^ (((dig a).length + 1) / 2) + 1) * (1000000000 ^ (((dig a).length + 1) / 2) + 1) := by
  have h := dig_lt a
  generalize (dig a).length = n at *
  have h2 : 1000000000 ^ n ≤ 1000000000 ^ ((n + 1) / 2) * 1000000000 ^ ((n + 1) / 2) := by
    rw [← Nat.pow_add]; exact Nat.pow_le_pow_right (by omega) (by omega)
  generalize 1000000000 ^ ((n + 1) / 2) = r at *
  have h3 : r * r ≤ (r + 1) * (r + 1) := Nat.mul_le_mul (by omega) (by omega)
  omega
end Go.Proofs.YtomjnjpehokjbaaGreatDoor

namespace Go.Proofs.YtomjnjpehokjbaaGreatDoor
open Go.RowKit Go.Shelf

/-- what Root hands back -/
def RootRes (z : Int) (w : World) (e : Ending) (w' : World) : Prop := ∃ Q s, e = .returned (.tuple #[Q, .int .i64 (if z < 0 then 2 else 0)]) ∧ IntRep w' Q ((s : Nat) : Int) ∧ IsRoot z s ∧ Keeps w w'
theorem owns_full {w : World} {base b : Nat} {t : TypeId} {out : List Nat} {N : Nat} (h : Own w b t (u32s out)) (hl : out.length = N) (hb : base ≤ b) (hm : N ≤ maxLen) :
    w.ownsRow base t 1 (.slice (some ⟨b, 0, none⟩) N N) N (u32s out) :=
  ⟨by simp [u32s, hl], .inr ⟨b, N, (u32s out).toArray, rfl, hb, h, Nat.le_refl _, hm, by simp [u32s, hl], by rw [Nat.mul_one]; exact List.take_of_length_le (by simp [u32s, hl])⟩⟩
end Go.Proofs.YtomjnjpehokjbaaGreatDoor

namespace Go.Proofs.YtomjnjpehokjbaaGreatDoor
open Go.RowKit Go.Shelf

end Go.Proofs.YtomjnjpehokjbaaGreatDoor

namespace Go.Proofs.YtomjnjpehokjbaaGreatDoor
open Go.RowKit Go.Shelf

/-- the code and the value of a power -/
def powC (z n : Int) : Int := if n < 0 ∨ 4096 < n then 2 else if 20000 < n * (dgs z.natAbs : Nat) then 9 else 0
def powZ (z n : Int) : Int := if powC z n = 0 then z ^ n.toNat else 0
/-- the bits of the exponent, from the thirteenth one down -/
def bitOf : Nat → Nat
  | 0 => 0
  | k + 1 => 2 ^ k
theorem bitOf_half (k : Nat) : bitOf (k + 1) / 2 = bitOf k := by
  cases k with
  | zero => rfl
  | succ k => simp only [bitOf]; rw [Nat.pow_succ]; omega
theorem bitOf_le {k : Nat} (h : k ≤ 13) : bitOf k ≤ 4096 := by
  cases k with
  | zero => simp [bitOf]
  | succ k => exact Nat.pow_le_pow_right (n := 2) (by omega) (show k ≤ 12 by omega)
theorem bitOf_pos (k : Nat) : 0 < bitOf (k + 1) := Nat.pow_pos (by omega)
/-- one round: the power behind it -/
theorem pow_round (m n k : Nat) : m ^ (n / 2 ^ k) = if n &&& bitOf (k + 1) = 0 then m ^ (n / 2 ^ (k + 1)) * m ^ (n / 2 ^ (k + 1)) else m ^ (n / 2 ^ (k + 1)) * m ^ (n / 2 ^ (k + 1)) * m := by
  rw [show bitOf (k + 1) = 2 ^ k from rfl, and_bit]
  have h := bit_step n k
  have h2 : (2 : Nat) ^ k ≠ 0 := Nat.pos_iff_ne_zero.1 (Nat.pow_pos (by omega))
  rw [← Nat.pow_add]
  by_cases hb : n / 2 ^ k % 2 = 1
  · rw [if_pos hb, if_neg h2, ← Nat.pow_succ]; congr 1; omega
  · rw [if_neg hb, if_pos rfl]; congr 1; omega
theorem bits_and_i64_nat (a b : Nat) (ha : a < 4294967296) (hb : b < 4294967296) : bits .and .i64 (a : Int) (b : Int) = ((a &&& b : Nat) : Int) := by
  have hx : a &&& b < 2 ^ 32 := Nat.and_lt_two_pow _ (by omega)
  have h1 : (BitVec.ofInt 64 (a : Int)).toNat = a := by
    rw [BitVec.ofInt_natCast, BitVec.toNat_ofNat]; exact Nat.mod_eq_of_lt (by omega)
  have h2 : (BitVec.ofInt 64 (b : Int)).toNat = b := by
    rw [BitVec.ofInt_natCast, BitVec.toNat_ofNat]; exact Nat.mod_eq_of_lt (by omega)
  show IntKind.i64.wrap ((BitVec.ofInt 64 (a : Int) &&& BitVec.ofInt 64 (b : Int)).toNat : Int) = _
  rw [BitVec.toNat_and, h1, h2]
  exact IntWalk.i64_in _ (by omega)
theorem sgn_pow (neg : Bool) (m : Nat) : ∀ n : Nat, (sgn neg m) ^ n = sgn (neg && decide (n % 2 = 1)) (m ^ n)
  | 0 => by simp [sgn]
  | n + 1 => by
    rw [Int.pow_succ, sgn_pow neg m n, Nat.pow_succ]
    cases neg
    · simp [sgn]
    · rcases Nat.mod_two_eq_zero_or_one n with h | h
      · have h2 : (n + 1) % 2 = 1 := by omega
        simp [sgn, h, h2, Int.mul_neg]
      · have h2 : (n + 1) % 2 = 0 := by omega
        simp [sgn, h, h2, Int.mul_neg, Int.neg_mul]
theorem U32.of_row {w : World} {base : Nat} {t : TypeId} {v : Value} {xs : List Nat} (h : w.ownsRow base t 1 v xs.length (u32s xs)) : U32 w v xs := U32.of_own h
end Go.Proofs.YtomjnjpehokjbaaGreatDoor

namespace Go.Proofs.YtomjnjpehokjbaaGreatDoor
open Go.RowKit Go.Shelf

end Go.Proofs.YtomjnjpehokjbaaGreatDoor
