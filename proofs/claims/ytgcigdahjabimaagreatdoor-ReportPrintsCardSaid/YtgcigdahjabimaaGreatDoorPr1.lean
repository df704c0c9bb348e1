/- Numbers in groups of nine decimal digits: plain arithmetic, no program in sight. Decimal texts of naturals, digit by digit and group by group. No program in sight. Decimal texts that are read: their value, group by group. No program in sight. The number of a text as report.natural reads it, plainly: nine characters at a time, from the end; what is no number counts as 0. No program in sight. Slices in memory: what a slice value reads as; blocks of the call's own. No program in sight. A range over an iterator whose k-th round is known: one law for the caller, by the number of the round. No program in sight. The walks of the magnitudes' small functions. The walks of plus and minus. The walks of made, split, Of, Valid, groups. -/
import Derived.Lib.ItoaNum
import Derived.Lib.Atoi
import Derived.Lib.ParseIntB
import Derived.WalkKit
import Derived.Deep.AppendLies
import Derived.Deep.Draws
import Derived.Lib.Hide
import Derived.Laws.AppendOwnNone
import Derived.RangeFuncNested
import Derived.RangeFuncBound
import Derived.RangeFuncCalls
import Derived.RangeFuncLeaves
import Derived.Shelf.Abstract
import Derived.Shelf.RegionOpen
import Derived.OwnWalkIn
import Derived.TacticsInMore
import Derived.LoopNIn
import Derived.LoopIn
import Derived.Test.YtgcigdahjabimaaGreatDoorProg
import Derived.WalkSpells
namespace Go.Proofs.YtgcigdahjabimaaGreatDoor

def val : List Nat → Nat
 | [] => 0
 | x :: r => x + 1000000000 * val r
def ix (xs : List Nat) (j : Nat) : Nat := xs.getD j 0
def AllB (xs : List Nat) : Prop := ∀ x ∈ xs, x < 1000000000
def trimL : List Nat → List Nat
 | [] => []
 | x :: r => match trimL r with
  | [] => if x = 0 then [] else [x]
  | y :: s => x :: y :: s
def dig (n : Nat) : List Nat := if _h : n = 0 then [] else n % 1000000000 :: dig (n / 1000000000)
termination_by n
decreasing_by omega

theorem ix_nil (j : Nat) : ix [] j = 0 := by simp [ix]
theorem ix_zero (x : Nat) (r : List Nat) : ix (x :: r) 0 = x := rfl
theorem ix_succ (x : Nat) (r : List Nat) (j : Nat) : ix (x :: r) (j + 1) = ix r j := by simp [ix]
theorem ix_get (xs : List Nat) (j : Nat) (h : j < xs.length) : ix xs j = xs[j] := by simp [ix, h]
theorem ix_past (xs : List Nat) (j : Nat) (h : xs.length ≤ j) : ix xs j = 0 := by simp [ix, h]
theorem ix_set (xs : List Nat) (k v j : Nat) (h : k < xs.length) : ix (xs.set k v) j = if j = k then v else ix xs j := by
 unfold ix; simp only [List.getD_eq_getElem?_getD, List.getElem?_set]
 by_cases e : k = j
 ·subst e; simp [h]
 ·rw [if_neg e, if_neg (Ne.symm e)]
theorem ix_take (xs : List Nat) (k j : Nat) (h : j < k) : ix (xs.take k) j = ix xs j := by
 simp [ix, h]
theorem ix_drop (xs : List Nat) (k j : Nat) : ix (xs.drop k) j = ix xs (k + j) := by simp [ix]
theorem take_snoc (xs : List Nat) (k : Nat) (h : k < xs.length) : xs.take (k + 1) = xs.take k ++ [ix xs k] := by
 rw [List.take_succ_eq_append_getElem h, ix_get xs k h]
theorem drop_cons (xs : List Nat) (k : Nat) (h : k < xs.length) : xs.drop k = ix xs k :: xs.drop (k + 1) := by
 rw [List.drop_eq_getElem_cons h, ix_get xs k h]
theorem ext_ix (xs ys : List Nat) (hl : xs.length = ys.length) (h : ∀ j, j < xs.length → ix xs j = ix ys j) : xs = ys := by
 apply List.ext_getElem hl
 intro i h1 h2
 have := h i h1
 rwa [ix_get _ _ h1, ix_get _ _ h2] at this

theorem AllB.nil : AllB [] := by intro x h; cases h
theorem AllB.cons {x : Nat} {r : List Nat} (h : x < 1000000000) (hr : AllB r) : AllB (x :: r) := by
 intro y hy; cases hy with
 | head => exact h
 | tail _ hy => exact hr y hy
theorem AllB.head {x : Nat} {r : List Nat} (h : AllB (x :: r)) : x < 1000000000 := h x (List.mem_cons_self ..)
theorem AllB.tail {x : Nat} {r : List Nat} (h : AllB (x :: r)) : AllB r := fun y hy => h y (List.mem_cons_of_mem _ hy)
theorem AllB.ix {xs : List Nat} (h : AllB xs) (j : Nat) : ix xs j < 1000000000 := by
 rcases Nat.lt_or_ge j xs.length with hj | hj
 ·rw [ix_get xs j hj]; exact h _ (List.getElem_mem hj)
 ·rw [ix_past xs j hj]; omega
theorem AllB.append {xs ys : List Nat} (h : AllB xs) (h' : AllB ys) : AllB (xs ++ ys) := by
 intro x hx; rcases List.mem_append.1 hx with k | k
 ·exact h x k
 ·exact h' x k
theorem AllB.take {xs : List Nat} (h : AllB xs) (k : Nat) : AllB (xs.take k) := fun x hx => h x (List.mem_of_mem_take hx)
theorem AllB.drop {xs : List Nat} (h : AllB xs) (k : Nat) : AllB (xs.drop k) := fun x hx => h x (List.mem_of_mem_drop hx)
theorem AllB.set {xs : List Nat} (h : AllB xs) (k v : Nat) (hv : v < 1000000000) : AllB (xs.set k v) := by
 intro x hx
 rcases List.mem_or_eq_of_mem_set hx with hx | rfl
 ·exact h x hx
 ·exact hv
theorem AllB.replicate (n : Nat) : AllB (List.replicate n 0) := by
 intro x hx; have := List.eq_of_mem_replicate hx; omega
theorem AllB.single {x : Nat} (h : x < 1000000000) : AllB [x] := AllB.cons h AllB.nil

theorem val_take_succ (xs : List Nat) (i : Nat) : val (xs.take (i + 1)) = val (xs.take i) + ix xs i * 1000000000 ^ i := by
 induction i generalizing xs with
 | zero => cases xs <;> simp [val, ix]
 | succ i ih =>
  cases xs with
  | nil => simp [val, ix]
  | cons x r =>
   simp only [List.take_succ_cons, val, ix_succ]
   rw [ih]
   grind
theorem val_set (xs : List Nat) (k v : Nat) (hk : k < xs.length) : val (xs.set k v) + ix xs k * 1000000000 ^ k = val xs + v * 1000000000 ^ k := by
 induction xs generalizing k with
 | nil => simp at hk
 | cons x r ih =>
  cases k with
  | zero => simp [val, ix]; omega
  | succ k =>
   have := ih k (by simpa using hk)
   simp only [List.set_cons_succ, val, ix_succ]
   grind
theorem val_append (xs ys : List Nat) : val (xs ++ ys) = val xs + 1000000000 ^ xs.length * val ys := by
 induction xs with
 | nil => simp [val]
 | cons x r ih => simp only [List.cons_append, val, ih, List.length_cons]; grind
theorem val_snoc (xs : List Nat) (y : Nat) : val (xs ++ [y]) = val xs + y * 1000000000 ^ xs.length := by
 rw [val_append]; simp [val]; grind
theorem val_replicate (n : Nat) : val (List.replicate n 0) = 0 := by
 induction n with
 | zero => rfl
 | succ n ih => simp [List.replicate_succ, val, ih]
theorem val_lt {xs : List Nat} (h : AllB xs) : val xs < 1000000000 ^ xs.length := by
 induction xs with
 | nil => simp [val]
 | cons x r ih =>
  have h1 := ih h.tail
  have h2 := h.head
  simp only [val, List.length_cons, Nat.pow_succ]
  omega
theorem val_drop (xs : List Nat) (k : Nat) (h : k < xs.length) : val (xs.drop k) = ix xs k + 1000000000 * val (xs.drop (k + 1)) := by
 rw [drop_cons xs k h]; rfl
theorem val_split (xs : List Nat) (k : Nat) (h : k ≤ xs.length) : val xs = val (xs.take k) + 1000000000 ^ k * val (xs.drop k) := by
 have := val_append (xs.take k) (xs.drop k)
 rw [List.take_append_drop] at this
 rw [this, List.length_take, Nat.min_eq_left h]

theorem dig_zero : dig 0 = [] := by unfold dig; simp
theorem dig_pos {n : Nat} (h : n ≠ 0) : dig n = n % 1000000000 :: dig (n / 1000000000) := by
 rw [dig]; simp [h]
theorem val_dig (n : Nat) : val (dig n) = n := by
 induction n using Nat.strongRecOn with
 | ind n ih =>
  by_cases h : n = 0
  ·subst h; rw [dig_zero]; rfl
  ·rw [dig_pos h, val, ih _ (by omega)]; omega
theorem AllB.dig (n : Nat) : AllB (dig n) := by
 induction n using Nat.strongRecOn with
 | ind n ih =>
  by_cases h : n = 0
  ·subst h; rw [dig_zero]; exact AllB.nil
  ·rw [dig_pos h]; exact AllB.cons (by omega) (ih _ (by omega))
theorem dig_eq_nil {n : Nat} : dig n = [] ↔ n = 0 := by
 constructor
 ·intro h; have := val_dig n; rw [h] at this; exact this.symm
 ·rintro rfl; exact dig_zero
theorem dig_length_pos {n : Nat} : 0 < (dig n).length ↔ n ≠ 0 := by
 rw [List.length_pos_iff]; exact not_congr dig_eq_nil
theorem dig_length_zero {n : Nat} : (dig n).length = 0 ↔ n = 0 := by
 rw [List.length_eq_zero_iff]; exact dig_eq_nil
theorem dig_inj {m n : Nat} (h : dig m = dig n) : m = n := by
 rw [← val_dig m, ← val_dig n, h]
theorem trimL_dig (n : Nat) : trimL (dig n) = dig n := by
 induction n using Nat.strongRecOn with
 | ind n ih =>
  by_cases h : n = 0
  ·subst h; rw [dig_zero]; rfl
  ·rw [dig_pos h, trimL, ih _ (by omega)]
   by_cases h2 : n / 1000000000 = 0
   ·rw [h2, dig_zero]; simp only; rw [if_neg (by omega)]
   ·rw [dig_pos h2]
theorem trimL_eq {xs : List Nat} (h : AllB xs) : trimL xs = dig (val xs) := by
 induction xs with
 | nil => simp [trimL, val, dig_zero]
 | cons x r ih =>
  have h1 := ih h.tail
  have h2 := h.head
  simp only [trimL, h1, val]
  by_cases hr : val r = 0
  ·rw [hr, dig_zero]
   by_cases hx : x = 0
   ·subst hx; simp [dig_zero]
   ·simp only [if_neg hx]
    rw [dig_pos (by omega), show (x + 1000000000 * 0) / 1000000000 = 0 by omega, dig_zero]
    congr 1; omega
  ·rw [dig_pos (n := x + 1000000000 * val r) (by omega), show (x + 1000000000 * val r) / 1000000000 = val r by omega,
    show (x + 1000000000 * val r) % 1000000000 = x by omega]
   cases hd : dig (val r) with
   | nil => exact absurd (dig_eq_nil.1 hd) hr
   | cons y s => rfl
theorem trimL_snoc_zero (xs : List Nat) : trimL (xs ++ [0]) = trimL xs := by
 induction xs with
 | nil => rfl
 | cons x r ih => simp [trimL, ih]
theorem trimL_snoc (xs : List Nat) (d : Nat) (h : d ≠ 0) : trimL (xs ++ [d]) = xs ++ [d] := by
 induction xs with
 | nil => simp [trimL, h]
 | cons x r ih =>
  simp only [List.cons_append, trimL, ih]
  cases r <;> rfl
theorem trimL_length_le (xs : List Nat) : (trimL xs).length ≤ xs.length := by
 induction xs with
 | nil => simp [trimL]
 | cons x r ih =>
  simp only [trimL]
  split
  ·split <;> simp
  ·next y s h => rw [h] at ih; simpa using ih
theorem trimL_take (xs : List Nat) : trimL xs = xs.take (trimL xs).length := by
 induction xs with
 | nil => rfl
 | cons x r ih =>
  simp only [trimL]
  split
  ·split <;> simp
  ·next y s h => rw [h] at ih; simp only [List.length_cons, List.take_succ_cons] at ih ⊢; rw [← ih]
theorem trimL_of_last {xs : List Nat} (h : ∀ (_ : 0 < xs.length), ix xs (xs.length - 1) ≠ 0) : trimL xs = xs := by
 rcases List.eq_nil_or_concat xs with rfl | ⟨ys, y, rfl⟩
 ·rfl
 ·have := h (by simp)
  simp only [List.concat_eq_append] at *
  refine trimL_snoc ys y ?_
  simpa [ix] using this
theorem dig_last {n : Nat} (h : n ≠ 0) : ix (dig n) ((dig n).length - 1) ≠ 0 := by
 intro h0
 have hp := dig_length_pos.2 h
 have e : dig n = (dig n).take ((dig n).length - 1) ++ [0] := by
  have := take_snoc (dig n) ((dig n).length - 1) (by omega)
  rw [show (dig n).length - 1 + 1 = (dig n).length by omega, List.take_length, h0] at this
  exact this
 have t := trimL_dig n
 rw [e, trimL_snoc_zero] at t
 have l := trimL_length_le ((dig n).take ((dig n).length - 1))
 rw [t] at l
 simp at l
 omega
theorem dig_of {xs : List Nat} (h : AllB xs) (hl : ∀ (_ : 0 < xs.length), ix xs (xs.length - 1) ≠ 0) : dig (val xs) = xs := by
 rw [← trimL_eq h, trimL_of_last hl]
theorem dig_length_le {n k : Nat} (h : n < 1000000000 ^ k) : (dig n).length ≤ k := by
 induction k generalizing n with
 | zero => rw [show n = 0 by simpa using h, dig_zero]; simp
 | succ k ih =>
  by_cases h0 : n = 0
  ·subst h0; rw [dig_zero]; simp
  ·rw [dig_pos h0, List.length_cons]
   have := ih (n := n / 1000000000) (by rw [Nat.pow_succ] at h; omega)
   omega
theorem dig_lt (n : Nat) : n < 1000000000 ^ (dig n).length := by
 have := val_lt (AllB.dig n)
 rwa [val_dig] at this
theorem dig_length_mono {m n : Nat} (h : m ≤ n) : (dig m).length ≤ (dig n).length :=
 dig_length_le (Nat.lt_of_le_of_lt h (dig_lt n))
theorem dig_ge {n : Nat} (h : n ≠ 0) : 1000000000 ^ ((dig n).length - 1) ≤ n := by
 rcases Nat.lt_or_ge n (1000000000 ^ ((dig n).length - 1)) with hl | hl
 ·have := dig_length_le hl
  have := dig_length_pos.2 h
  omega
 ·exact hl
theorem dig_length_add (m n : Nat) : (dig (m + n)).length ≤ max (dig m).length (dig n).length + 1 := by
 apply dig_length_le
 have h1 := dig_lt m
 have h2 := dig_lt n
 have h3 : 1000000000 ^ (dig m).length ≤ 1000000000 ^ max (dig m).length (dig n).length := Nat.pow_le_pow_right (by omega) (by omega)
 have h4 : 1000000000 ^ (dig n).length ≤ 1000000000 ^ max (dig m).length (dig n).length := Nat.pow_le_pow_right (by omega) (by omega)
 rw [Nat.pow_succ]
 omega
theorem dig_length_mul (m n : Nat) : (dig (m * n)).length ≤ (dig m).length + (dig n).length := by
 apply dig_length_le
 rw [Nat.pow_add]
 have h1 := dig_lt m
 have h2 := dig_lt n
 exact Nat.mul_lt_mul_of_lt_of_lt h1 h2
theorem dig_small {n : Nat} (h : n ≠ 0) (h2 : n < 1000000000) : dig n = [n] := by
 rw [dig_pos h, show n / 1000000000 = 0 by omega, dig_zero, show n % 1000000000 = n by omega]

theorem take_set_self (xs : List Nat) (k v : Nat) : (xs.set k v).take k = xs.take k := by
 rw [List.take_set_of_le (Nat.le_refl _)]
theorem val_put (xs : List Nat) (k v : Nat) (h : k < xs.length) : val ((xs.set k v).take (k + 1)) = val (xs.take k) + v * 1000000000 ^ k := by
 rw [val_take_succ, take_set_self, ix_set xs k v k h, if_pos rfl]
theorem plus_step (xs ys out : List Nat) (k cc s c : Nat) (hk : k < out.length) (hv : val (out.take k) + cc * 1000000000 ^ k = val (xs.take k) + val (ys.take k))
 (e : s + c * 1000000000 = ix xs k + ix ys k + cc) :
 val ((out.set k s).take (k + 1)) + c * 1000000000 ^ (k + 1) = val (xs.take (k + 1)) + val (ys.take (k + 1)) := by
 rw [val_put out k s hk, val_take_succ xs, val_take_succ ys]
 have : (s + c * 1000000000) * 1000000000 ^ k = (ix xs k + ix ys k + cc) * 1000000000 ^ k := by rw [e]
 grind
theorem plus_done (xs ys out : List Nat) (N cc : Nat) (h : out.length = N) (h1 : xs.length + 1 ≤ N) (h2 : ys.length + 1 ≤ N) (hx : AllB xs) (hy : AllB ys)
 (hv : val (out.take N) + cc * 1000000000 ^ N = val (xs.take N) + val (ys.take N)) : val out = val xs + val ys := by
 rw [List.take_of_length_le (by omega), List.take_of_length_le (by omega), List.take_of_length_le (by omega)] at hv
 have a := val_lt hx
 have b := val_lt hy
 obtain ⟨M, rfl⟩ : ∃ M, N = M + 1 := ⟨N - 1, by omega⟩
 have a' : 1000000000 ^ xs.length ≤ 1000000000 ^ M := Nat.pow_le_pow_right (by omega) (by omega)
 have b' : 1000000000 ^ ys.length ≤ 1000000000 ^ M := Nat.pow_le_pow_right (by omega) (by omega)
 rw [Nat.pow_succ] at hv
 cases cc with
 | zero => omega
 | succ c =>
  have : (c + 1) * (1000000000 ^ M * 1000000000) = c * (1000000000 ^ M * 1000000000) + 1000000000 ^ M * 1000000000 := by grind
  have : 0 ≤ c * (1000000000 ^ M * 1000000000) := Nat.zero_le _
  omega
theorem minus_step (xs ys out : List Nat) (k cc s c : Nat) (hk : k < out.length) (hv : val (out.take k) + val (ys.take k) = val (xs.take k) + cc * 1000000000 ^ k)
 (e : s + ix ys k + cc = ix xs k + c * 1000000000) :
 val ((out.set k s).take (k + 1)) + val (ys.take (k + 1)) = val (xs.take (k + 1)) + c * 1000000000 ^ (k + 1) := by
 rw [val_put out k s hk, val_take_succ xs, val_take_succ ys]
 have : (s + ix ys k + cc) * 1000000000 ^ k = (ix xs k + c * 1000000000) * 1000000000 ^ k := by rw [e]
 grind
theorem minus_done (xs ys out : List Nat) (cc : Nat) (h : out.length = xs.length) (ho : AllB out) (hx : AllB xs) (hc : cc ≤ 1) (hl : ys.length ≤ xs.length) (hle : val ys ≤ val xs)
 (hv : val (out.take xs.length) + val (ys.take xs.length) = val (xs.take xs.length) + cc * 1000000000 ^ xs.length) : val out = val xs - val ys := by
 rw [List.take_of_length_le (by omega), List.take_of_length_le (by omega), List.take_of_length_le (by omega)] at hv
 have a := val_lt ho
 have b := val_lt hx
 rw [h] at a
 have : cc = 0 ∨ cc = 1 := by omega
 rcases this with rfl | rfl
 ·omega
 ·omega
theorem times_step (out : List Nat) (k s o c c' p q R : Nat) (hk : k < out.length) (ho : ix out k = o) (hv : val out + c * 1000000000 ^ k = R) (e : s + c' * 1000000000 = o + p * q + c) :
 val (out.set k s) + c' * 1000000000 ^ (k + 1) = R + p * q * 1000000000 ^ k := by
 have h := val_set out k s hk
 rw [ho] at h
 have : (s + c' * 1000000000) * 1000000000 ^ k = (o + p * q + c) * 1000000000 ^ k := by rw [e]
 grind
theorem val_lt_of {xs ys : List Nat} (hx : AllB xs) (i : Nat) (hi : i < xs.length) (hl : xs.length = ys.length) (hd : xs.drop (i + 1) = ys.drop (i + 1)) (h : ix xs i < ix ys i) : val xs < val ys := by
 rw [val_split xs (i + 1) (by omega), val_split ys (i + 1) (by omega), hd, val_take_succ, val_take_succ]
 have h1 := val_lt (hx.take i)
 rw [List.length_take, Nat.min_eq_left (by omega)] at h1
 have h2 : (ix xs i + 1) * 1000000000 ^ i ≤ ix ys i * 1000000000 ^ i := Nat.mul_le_mul_right _ h
 have h3 : (ix xs i + 1) * 1000000000 ^ i = ix xs i * 1000000000 ^ i + 1000000000 ^ i := by grind
 omega
theorem dig_lt_of_length {a b : Nat} (h : (dig a).length < (dig b).length) : a < b := by
 rcases Nat.lt_or_ge a b with h1 | h1
 ·exact h1
 ·have := dig_length_mono h1
  omega
theorem dig_cmp_at (a b i : Nat) (hl : (dig a).length = (dig b).length) (hi : i < (dig a).length) (hd : (dig a).drop (i + 1) = (dig b).drop (i + 1)) (hne : ix (dig a) i ≠ ix (dig b) i) :
 ((a : Int) - b).sign = ((ix (dig a) i : Int) - ix (dig b) i).sign := by
 rcases Nat.lt_or_gt_of_ne hne with h | h
 ·have := val_lt_of (AllB.dig a) i hi hl hd h
  rw [val_dig, val_dig] at this
  rw [Int.sign_eq_neg_one_of_neg (by omega), Int.sign_eq_neg_one_of_neg (by omega)]
 ·have := val_lt_of (AllB.dig b) i (by omega) hl.symm hd.symm h
  rw [val_dig, val_dig] at this
  rw [Int.sign_eq_one_of_pos (by omega), Int.sign_eq_one_of_pos (by omega)]
theorem mul_lt_base (p q : Nat) (hp : p < 1000000000) (hq : q < 1000000000) : p * q ≤ 999999998000000001 := by
 have := Nat.mul_le_mul (show p ≤ 999999999 by omega) (show q ≤ 999999999 by omega)
 omega
theorem times_in (xs ys out : List Nat) (k j c s c' : Nat) (hk : k + j < out.length)
 (hv : val out + c * 1000000000 ^ (k + j) = val (xs.take k) * val ys + ix xs k * val (ys.take j) * 1000000000 ^ k)
 (e : s + c' * 1000000000 = ix out (k + j) + ix xs k * ix ys j + c) :
 val (out.set (k + j) s) + c' * 1000000000 ^ (k + (j + 1)) = val (xs.take k) * val ys + ix xs k * val (ys.take (j + 1)) * 1000000000 ^ k := by
 have h := times_step out (k + j) s _ c c' _ _ _ hk rfl hv e
 rw [val_take_succ ys, show k + (j + 1) = k + j + 1 by omega, h, Nat.pow_add]
 grind
theorem times_out (xs ys out : List Nat) (k c : Nat) (hk : k + ys.length < out.length) (h0 : ix out (k + ys.length) = 0)
 (hv : val out + c * 1000000000 ^ (k + ys.length) = val (xs.take k) * val ys + ix xs k * val (ys.take ys.length) * 1000000000 ^ k) :
 val (out.set (k + ys.length) c) = val (xs.take (k + 1)) * val ys := by
 have h := val_set out (k + ys.length) c hk
 rw [h0] at h
 rw [List.take_length] at hv
 rw [val_take_succ xs]
 grind
def dch (x : Nat) : UInt8 := UInt8.ofNat (48 + x % 10)
def low : Nat → Nat → List UInt8
 | 0, _ => []
 | k + 1, x => low k (x / 10) ++ [dch x]
def txt (m : Nat) : List UInt8 := if m = 0 then [] else Lib.decDigits m
def textL (z : Int) : List UInt8 := if z = 0 then [48] else (if z < 0 then [45] else []) ++ Lib.decDigits z.natAbs

theorem low_length : ∀ k x, (low k x).length = k
 | 0, _ => rfl
 | k + 1, x => by rw [low, List.length_append, low_length k]; rfl
theorem low_zero : ∀ k, low k 0 = List.replicate k 48
 | 0 => rfl
 | k + 1 => by rw [low, show (0 : Nat) / 10 = 0 from rfl, low_zero k, List.replicate_succ']; rfl
theorem txt_step (m : Nat) (h : 0 < m) : txt m = txt (m / 10) ++ [dch m] := by
 unfold txt
 rw [if_neg (by omega), Lib.decDigits]
 by_cases h10 : m < 10
 ·rw [dif_pos h10, if_pos (by omega)]
  simp [dch, Nat.mod_eq_of_lt h10]
 ·rw [dif_neg h10, if_neg (by omega)]; rfl
theorem txt_group : ∀ (k V x : Nat), 0 < V → x < 10 ^ k → txt (V * 10 ^ k + x) = txt V ++ low k x
 | 0, V, x, _, hx => by
  obtain rfl : x = 0 := by simpa using hx
  simp [low]
 | k + 1, V, x, hV, hx => by
  have hp : 0 < V * 10 ^ (k + 1) := Nat.mul_pos hV (Nat.pow_pos (by omega))
  rw [txt_step _ (by omega), low]
  have e1 : (V * 10 ^ (k + 1) + x) / 10 = V * 10 ^ k + x / 10 := by
   rw [Nat.pow_succ, ← Nat.mul_assoc, Nat.mul_comm (V * 10 ^ k) 10, Nat.mul_add_div (by omega)]
  have e2 : dch (V * 10 ^ (k + 1) + x) = dch x := by
   unfold dch
   rw [Nat.pow_succ, ← Nat.mul_assoc, Nat.mul_comm (V * 10 ^ k) 10, Nat.mul_add_mod]
  rw [e1, e2, txt_group k V (x / 10) hV (by rw [Nat.pow_succ] at hx; omega), List.append_assoc]
theorem pad_low : ∀ (k x : Nat), x < 10 ^ k → 0 < k → List.replicate (k - (Lib.decDigits x).length) 48 ++ Lib.decDigits x = low k x
 | k + 1, x, hx, _ => by
  rw [low]
  by_cases h10 : x < 10
  ·rw [Lib.decDigits, dif_pos h10, show x / 10 = 0 by omega, low_zero]
   simp [dch, Nat.mod_eq_of_lt h10]
  ·rw [Lib.decDigits, dif_neg h10]
   have hk : 0 < k := Nat.pos_of_ne_zero fun e => by subst e; simp at hx; omega
   rw [← pad_low k (x / 10) (by rw [Nat.pow_succ] at hx; omega) hk]
   simp only [List.length_append, List.length_cons, List.length_nil, List.append_assoc]
   rw [show k + 1 - ((Lib.decDigits (x / 10)).length + (0 + 1)) = k - (Lib.decDigits (x / 10)).length by omega]
   rfl
theorem low_cons : ∀ (k x : Nat), low (k + 1) x = dch (x / 10 ^ k) :: low k x
 | 0, x => by simp [low]
 | k + 1, x => by
  rw [low, low_cons k (x / 10), low, Nat.div_div_eq_div_mul, Nat.pow_succ, Nat.mul_comm (10 ^ k) 10]
  rfl
theorem decDigits_len (x : Nat) (h : x < 1000000000) : (Lib.decDigits x).length ≤ 9 ∧ 0 < (Lib.decDigits x).length := by
 have h1 := congrArg List.length (pad_low 9 x (by omega) (by omega))
 rw [List.length_append, List.length_replicate, low_length] at h1
 refine ⟨by omega, ?_⟩
 rw [Lib.decDigits]
 split <;> simp
theorem txt_pos (m : Nat) (h : m ≠ 0) : txt m = Lib.decDigits m := if_neg h
theorem txt_pad (V x : Nat) (hV : 0 < V) (hx : x < 1000000000) : txt (V * 1000000000 + x) = txt V ++ (List.replicate (9 - (Lib.decDigits x).length) 48 ++ Lib.decDigits x) := by
 rw [pad_low 9 x (by omega) (by omega), ← txt_group 9 V x hV (by omega)]
theorem drop_pos (m q : Nat) (h : q < (dig m).length) : 0 < val ((dig m).drop q) := by
 rcases Nat.eq_zero_or_pos (val ((dig m).drop q)) with h0 | h0
 ·have h1 := val_split (dig m) q (by omega)
  rw [h0, Nat.mul_zero, Nat.add_zero, val_dig] at h1
  have h2 := val_lt ((AllB.dig m).take q)
  rw [List.length_take, Nat.min_eq_left (by omega), ← h1] at h2
  have h3 := dig_length_le h2
  omega
 ·exact h0
theorem txt_len : ∀ (K m : Nat), m < 10 ^ K → (txt m).length ≤ K
 | 0, m, h => by
  obtain rfl : m = 0 := by simpa using h
  simp [txt]
 | K + 1, m, h => by
  rcases Nat.eq_zero_or_pos m with rfl | hp
  ·simp [txt]
  ·rw [txt_step m hp, List.length_append]
   have := txt_len K (m / 10) (by rw [Nat.pow_succ] at h; omega)
   simp only [List.length_cons, List.length_nil]
   omega
theorem txt_drop_len (m j : Nat) : (txt (val ((dig m).drop j))).length ≤ 9 * (dig m).length := by
 have h := val_lt ((AllB.dig m).drop j)
 have h2 := txt_len (9 * ((dig m).drop j).length) _ (by rw [Nat.pow_mul]; exact h)
 rw [List.length_drop] at h2
 omega
def padN (k L : Nat) : Nat := if k = 0 then 0 else 9 - L
theorem txt_round (m n k q : Nat) (hn : (dig m).length = n) (hk : k < n) (hq : n - 1 - k = q) :
 txt (val ((dig m).drop (n - (k + 1)))) = txt (val ((dig m).drop (n - k))) ++ (List.replicate (padN k (Lib.decDigits (ix (dig m) q)).length) 48 ++ Lib.decDigits (ix (dig m) q)) := by
 have hd := val_drop (dig m) q (by omega)
 rw [show n - (k + 1) = q by omega, hd, show n - k = q + 1 by omega]
 unfold padN
 by_cases h0 : k = 0
 ·have h1 : val ((dig m).drop (q + 1)) = 0 := by rw [List.drop_of_length_le (by omega)]; simp [val]
  have h2 := drop_pos m q (by omega)
  rw [hd, h1] at h2
  rw [if_pos h0, h1, Nat.mul_zero, Nat.add_zero, txt_pos _ (by omega)]
  simp [txt]
 ·rw [if_neg h0, Nat.add_comm, Nat.mul_comm, txt_pad _ _ (drop_pos m (q + 1) (by omega)) ((AllB.dig m).ix q)]
end Go.Proofs.YtgcigdahjabimaaGreatDoor
namespace Go.Proofs.YtgcigdahjabimaaGreatDoor
open Go

def isDg (c : UInt8) : Bool := decide (48 ≤ c.toNat ∧ c.toNat ≤ 57)
def valD (l : List UInt8) : Nat := l.foldl (fun a c => a * 10 + (c.toNat - 48)) 0
theorem foldl_val (l : List UInt8) : ∀ a : Nat, l.foldl (fun a c => a * 10 + (c.toNat - 48)) a = a * 10 ^ l.length + valD l := by
 induction l with
 | nil => intro a; simp [valD]
 | cons c r ih =>
  intro a
  have e : valD (c :: r) = (0 * 10 + (c.toNat - 48)) * 10 ^ r.length + valD r := ih _
  rw [List.foldl_cons, ih, e, List.length_cons, Nat.pow_succ, Nat.zero_mul, Nat.zero_add, Nat.add_mul, Nat.mul_assoc, Nat.mul_comm 10 (10 ^ r.length)]
  omega
theorem valD_append (a b : List UInt8) : valD (a ++ b) = valD a * 10 ^ b.length + valD b := by
 unfold valD
 rw [List.foldl_append, foldl_val]
 rfl
theorem valD_one (c : UInt8) : valD [c] = c.toNat - 48 := by simp [valD]
theorem valD_snoc (l : List UInt8) (c : UInt8) : valD (l ++ [c]) = valD l * 10 + (c.toNat - 48) := by
 rw [valD_append, valD_one]; simp
theorem txt_digits (m : Nat) : (txt m).all isDg = true ∧ valD (txt m) = m ∧ (∀ c r, txt m = c :: r → c ≠ 48) := by
 induction m using Nat.strongRecOn with
 | _ m ih =>
  rcases Nat.eq_zero_or_pos m with h0 | hp
  ·subst h0; refine ⟨rfl, rfl, fun c r e => ?_⟩; simp [txt] at e
  ·obtain ⟨h1, h2, h3⟩ := ih (m / 10) (by omega)
   have hd : (dch m).toNat = 48 + m % 10 := by
    unfold dch
    rw [UInt8.toNat_ofNat']
    omega
   rw [txt_step m hp]
   refine ⟨?_, ?_, fun c r e => ?_⟩
   ·rw [List.all_append, h1]
    simp [isDg, hd]
    omega
   ·rw [valD_snoc, h2, hd]; omega
   ·cases ht : txt (m / 10) with
    | nil =>
     rw [ht] at e
     simp only [List.nil_append, List.cons.injEq] at e
     have hz : m / 10 = 0 := by
      rcases Nat.eq_zero_or_pos (m / 10) with h | h
      ·exact h
      ·rw [txt_step _ h] at ht
       simp at ht
     intro e2
     have := congrArg UInt8.toNat (e.1.trans e2)
     rw [hd] at this
     simp at this
     omega
    | cons c' r' =>
     rw [ht] at e
     simp only [List.cons_append, List.cons.injEq] at e
     rw [← e.1]
     exact h3 c' r' ht
theorem group_step (ds : List UInt8) (k lo hi : Nat) (h2 : lo ≤ hi) (h3 : ds.length - hi = 9 * k) :
 valD (ds.drop lo) = valD (ds.drop hi) + valD ((ds.drop lo).take (hi - lo)) * 1000000000 ^ k := by
 have e : ds.drop lo = (ds.drop lo).take (hi - lo) ++ ds.drop hi := by
  conv => lhs; rw [← List.take_append_drop (hi - lo) (ds.drop lo)]
  rw [List.drop_drop, show lo + (hi - lo) = hi by omega]
 conv => lhs; rw [e]
 rw [valD_append, List.length_drop, h3, show (1000000000 : Nat) = 10 ^ 9 from rfl, ← Nat.pow_mul]
 omega
def bodyOf (l : List UInt8) : List UInt8 := if l.head? = some 45 then l.tail else l
def negOf (l : List UInt8) : Bool := decide (l.head? = some 45)
def gN (l : List UInt8) : Nat := match Lib.parseUintB 32 l with
 | .ok u => u
 | _ => 0
theorem parseM_few : ∀ (l : List UInt8) (a acc : Nat), acc < 10 ^ a → a + l.length ≤ 9 → (Lib.parseUintM (2 ^ 32 - 1) acc l ≠ .range) ∧ ∀ u, Lib.parseUintM (2 ^ 32 - 1) acc l = .ok u → u < 10 ^ (a + l.length)
 | [], a, acc, h, hl => by
  refine ⟨by simp [Lib.parseUintM], fun u hu => ?_⟩
  simp [Lib.parseUintM] at hu
  subst hu
  exact h
 | c :: r, a, acc, h, hl => by
  rw [List.length_cons] at hl
  have h9 : 10 ^ a ≤ 10 ^ 8 := Nat.pow_le_pow_right (by omega) (by omega)
  have e8 : (10 : Nat) ^ 8 = 100000000 := by decide
  have e32 : (2 : Nat) ^ 32 - 1 = 4294967295 := by decide
  unfold Lib.parseUintM
  by_cases hc : 48 ≤ c.toNat ∧ c.toNat ≤ 57
  ·rw [if_pos hc, if_neg (by omega), if_neg (by rw [e32]; omega)]
   have h1 : acc * 10 + (c.toNat - 48) < 10 ^ (a + 1) := by rw [Nat.pow_succ]; omega
   have ih := parseM_few r (a + 1) _ h1 (by omega)
   rw [List.length_cons, show a + (r.length + 1) = a + 1 + r.length by omega]
   exact ih
  ·rw [if_neg hc]
   exact ⟨by simp, fun u hu => by cases hu⟩
theorem parse_norange {l : List UInt8} (h : l.length ≤ 9) : Lib.parseUintB 32 l ≠ .range := by
 unfold Lib.parseUintB
 split
 ·simp
 ·exact (parseM_few l 0 0 (by decide) (by omega)).1
theorem gN_lt {l : List UInt8} (h : l.length ≤ 9) : gN l < 1000000000 := by
 unfold gN
 cases hp : Lib.parseUintB 32 l with
 | ok u =>
  unfold Lib.parseUintB at hp
  split at hp
  ·cases hp
  ·have h1 := (parseM_few l 0 0 (by decide) (by omega)).2 u hp
   have h2 : 10 ^ (0 + l.length) ≤ 10 ^ 9 := Nat.pow_le_pow_right (by omega) (by omega)
   have e9 : (10 : Nat) ^ 9 = 1000000000 := by decide
   show u < 1000000000
   omega
 | _ => show 0 < 1000000000; omega
theorem parseM_digits : ∀ (l : List UInt8) (a acc : Nat), l.all isDg = true → acc < 10 ^ a → a + l.length ≤ 9 → Lib.parseUintM (2 ^ 32 - 1) acc l = .ok (l.foldl (fun a c => a * 10 + (c.toNat - 48)) acc)
 | [], a, acc, _, _, _ => rfl
 | c :: r, a, acc, hd, h, hl => by
  rw [List.length_cons] at hl
  rw [List.all_cons, Bool.and_eq_true] at hd
  have h9 : 10 ^ a ≤ 10 ^ 8 := Nat.pow_le_pow_right (by omega) (by omega)
  have e8 : (10 : Nat) ^ 8 = 100000000 := by decide
  have e32 : (2 : Nat) ^ 32 - 1 = 4294967295 := by decide
  have hc : 48 ≤ c.toNat ∧ c.toNat ≤ 57 := by have := hd.1; unfold isDg at this; simpa using this
  unfold Lib.parseUintM
  rw [if_pos hc, if_neg (by omega), if_neg (by rw [e32]; omega), List.foldl_cons]
  exact parseM_digits r (a + 1) _ hd.2 (by rw [Nat.pow_succ]; omega) (by omega)
theorem gN_digits {l : List UInt8} (hd : l.all isDg = true) (h : l.length ≤ 9) : gN l = valD l := by
 cases l with
 | nil => rfl
 | cons c r =>
  have h1 := parseM_digits (c :: r) 0 0 hd (by decide) (by omega)
  unfold gN Lib.parseUintB
  rw [if_neg (by simp), h1]
  rfl
def natK (l : List UInt8) (k : Nat) : List Nat := (List.range k).map fun i => gN ((l.take (l.length - 9 * i)).drop (l.length - 9 * (i + 1)))
theorem natK_next (l : List UInt8) (k : Nat) : natK l (k + 1) = natK l k ++ [gN ((l.take (l.length - 9 * k)).drop (l.length - 9 * (k + 1)))] := by
 unfold natK
 rw [List.range_succ, List.map_append]
 rfl
theorem natK_len (l : List UInt8) (k : Nat) : (natK l k).length = k := by simp [natK]
theorem natK_all (l : List UInt8) (k : Nat) : AllB (natK l k) := fun x hx => by
 unfold natK at hx
 obtain ⟨i, -, rfl⟩ := List.mem_map.1 hx
 refine gN_lt ?_
 rw [List.length_drop, List.length_take]
 omega
def natV (l : List UInt8) : Nat := val (natK l ((l.length + 8) / 9))
theorem natK_digits {l : List UInt8} (hd : l.all isDg = true) : ∀ k, 9 * k ≤ l.length + 8 → val (natK l k) = valD (l.drop (l.length - 9 * k))
 | 0, _ => by
  rw [Nat.mul_zero, Nat.sub_zero, List.drop_length]
  rfl
 | k + 1, hk => by
  have ih := natK_digits hd k (by omega)
  have e : (l.take (l.length - 9 * k)).drop (l.length - 9 * (k + 1)) = (l.drop (l.length - 9 * (k + 1))).take (l.length - 9 * k - (l.length - 9 * (k + 1))) := by
   rw [List.drop_take]
  have ha : ((l.drop (l.length - 9 * (k + 1))).take (l.length - 9 * k - (l.length - 9 * (k + 1)))).all isDg = true := by
   rw [List.all_eq_true] at hd ⊢
   exact fun x hx => hd x (List.mem_of_mem_drop (List.mem_of_mem_take hx))
  rw [natK_next, val_snoc, natK_len, ih, e, gN_digits ha (by rw [List.length_take]; omega), group_step l k (l.length - 9 * (k + 1)) (l.length - 9 * k) (by omega) (by omega)]
theorem natV_digits {l : List UInt8} (hd : l.all isDg = true) : natV l = valD l := by
 unfold natV
 rw [natK_digits hd _ (by omega), show l.length - 9 * ((l.length + 8) / 9) = 0 by omega]
 rfl
end Go.Proofs.YtgcigdahjabimaaGreatDoor
namespace Go.Proofs.YtgcigdahjabimaaGreatDoor
open Go.RowKit

def Row (w : World) (A : Option Addr) (n : Nat) (f : Nat → Value) : Prop :=
 0 < n → ∃ b o, A = some ⟨b, o, none⟩ ∧ b < w.heap.size ∧ ∀ j, j < n → w.cell? ⟨b, o + j, none⟩ = some (f j)
def Sl (w : World) (v : Value) (n : Nat) (f : Nat → Value) : Prop :=
 ∃ A c, v = .slice A n c ∧ n ≤ c ∧ c ≤ maxLen ∧ (A = none → c = 0) ∧ Row w A n f
def u32 (xs : List Nat) (j : Nat) : Value := .int .u32 (ix xs j : Nat)
def U32 (w : World) (v : Value) (xs : List Nat) : Prop := Sl w v xs.length (u32 xs)
def Own (w : World) (b : Nat) (t : TypeId) (vs : List Value) : Prop := w.heap[b]? = some (.cells vs.toArray t (0, 0))
def u32s (xs : List Nat) : List Value := xs.map fun (x : Nat) => Value.int .u32 x
abbrev Keeps (w w' : World) : Prop := Below w.heap.size w w'
def lenOf : Value → Nat | .slice _ n _ => n | _ => 0

section
variable {w w' : World} {A : Option Addr} {n : Nat} {f : Nat → Value} {v : Value} {xs : List Nat}
theorem Row.zero : Row w A 0 f := fun h => absurd h (by omega)
theorem Row.below (h : Row w A n f) (hb : Below w.heap.size w w') : Row w' A n f := fun hn => by
 obtain ⟨b, o, rfl, hlt, hc⟩ := h hn
 exact ⟨b, o, rfl, Nat.lt_of_lt_of_le hlt hb.size, fun j hj => (hb.cell (p := ⟨b, o + j, none⟩) hlt).trans (hc j hj)⟩
theorem Row.take (h : Row w A n f) {k : Nat} (hk : k ≤ n) : Row w A k f := fun hp => by
 obtain ⟨b, o, rfl, hlt, hc⟩ := h (by omega)
 exact ⟨b, o, rfl, hlt, fun j hj => hc j (by omega)⟩
theorem Row.congr (h : Row w A n f) {g : Nat → Value} (hg : ∀ j, j < n → f j = g j) : Row w A n g := fun hp => by
 obtain ⟨b, o, rfl, hlt, hc⟩ := h hp
 exact ⟨b, o, rfl, hlt, fun j hj => by rw [← hg j hj]; exact hc j hj⟩
theorem Sl.below (h : Sl w v n f) (hb : Below w.heap.size w w') : Sl w' v n f := by
 obtain ⟨A, c, rfl, h1, h2, h0, h3⟩ := h
 exact ⟨A, c, rfl, h1, h2, h0, h3.below hb⟩
theorem U32.below (h : U32 w v xs) (hb : Below w.heap.size w w') : U32 w' v xs := Sl.below h hb
theorem U32.mk {c : Nat} (h : Row w A xs.length (u32 xs)) (h1 : xs.length ≤ c) (h2 : c ≤ maxLen) (h0 : A = none → c = 0) : U32 w (.slice A xs.length c) xs := ⟨A, c, rfl, h1, h2, h0, h⟩
theorem U32.nil : U32 w (.slice none 0 0) [] := ⟨none, 0, rfl, Nat.le_refl _, by simp [maxLen], fun _ => rfl, Row.zero⟩
theorem Row.lt (h : Row w A n f) {b o : Nat} (e : A = some ⟨b, o, none⟩) (hn : 0 < n) : b < w.heap.size := by
 obtain ⟨b', o', e', h1, _⟩ := h hn
 rw [e] at e'
 cases e'
 exact h1

theorem bcell {W w1 : World} (hb : Below W.heap.size W w1) : (∀ b o, b < W.heap.size → w1.cell? ⟨b, o, none⟩ = W.cell? ⟨b, o, none⟩) ∧ (∀ b o, b < W.heap.size → w1.frozen? ⟨b, o, none⟩ = W.frozen? ⟨b, o, none⟩) :=
 ⟨fun b o h => hb.cell (p := ⟨b, o, none⟩) h, fun b o h => hb.frozen (p := ⟨b, o, none⟩) h⟩
theorem Own.lt {b : Nat} {t : TypeId} {vs : List Value} (h : Own w b t vs) : b < w.heap.size := by
 unfold Own at h
 rcases Nat.lt_or_ge b w.heap.size with hlt | hge
 ·exact hlt
 ·rw [Array.getElem?_eq_none hge] at h; cases h
theorem Own.new (w : World) (t : TypeId) (vs : List Value) : Own (w.alloc (.cells vs.toArray t)) w.heap.size t vs := heap_alloc_new w _
theorem Own.cell {b : Nat} {t : TypeId} {vs : List Value} (h : Own w b t vs) (i : Nat) : w.cell? ⟨b, i, none⟩ = vs[i]? := by
 rw [cell_of_row w b i vs.toArray t (0, 0) h]; simp
theorem Own.frozen {b : Nat} {t : TypeId} {vs : List Value} (h : Own w b t vs) (i : Nat) : w.frozen? ⟨b, i, none⟩ = false := by
 unfold Own at h; simp [World.frozen?, h]
theorem Own.set {b : Nat} {t : TypeId} {vs : List Value} (h : Own w b t vs) (i : Nat) (u : Value) : Own (w.setCell ⟨b, i, none⟩ u) b t (vs.set i u) := by
 unfold Own at h ⊢
 simp [World.setCell, Array.getElem?_modify, h]
theorem Own.c0 {b : Nat} {t : TypeId} {x : Value} {r : List Value} (h : Own w b t (x :: r)) : w.cell? ⟨b, 0, none⟩ = some x := by rw [h.cell]; rfl
theorem Own.c1 {b : Nat} {t : TypeId} {x y : Value} {r : List Value} (h : Own w b t (x :: y :: r)) : w.cell? ⟨b, 1, none⟩ = some y := by rw [h.cell]; rfl
theorem Own.two {b : Nat} {t : TypeId} {x y : Value} (h : Own w b t [x, y]) (x' y' : Value) : Own ((w.setCell ⟨b, 0, none⟩ x').setCell ⟨b, 1, none⟩ y') b t [x', y'] := (h.set 0 x').set 1 y'
theorem Own.drew {b : Nat} {t : TypeId} {vs : List Value} (h : Own w b t vs) : Own w.drew b t vs := h
theorem own2 (w : World) (o : Obj) (t : TypeId) (vs : List Value) : Own ((w.alloc o).alloc (.cells vs.toArray t)) (w.heap.size + 1) t vs := by
 have := Own.new (w.alloc o) t vs
 rwa [World.size_alloc] at this
theorem own3 (w : World) (o o' : Obj) (t : TypeId) (vs : List Value) : Own (((w.alloc o).alloc o').alloc (.cells vs.toArray t)) (w.heap.size + 1 + 1) t vs := by
 have := Own.new ((w.alloc o).alloc o') t vs
 rwa [World.size_alloc, World.size_alloc] at this
theorem keep3 (w : World) (o o' o2 : Obj) : Keeps w (((w.alloc o).alloc o').alloc o2) := (((Below.refl _ _).alloc (Nat.le_refl _) _).alloc (by simp) _).alloc (by simp; omega) _
theorem keep2 (w : World) (o o' : Obj) : Keeps w ((w.alloc o).alloc o') := ((Below.refl _ _).alloc (Nat.le_refl _) _).alloc (by simp) _
theorem Keeps.trans' {w1 : World} (h : Keeps w w1) (h1 : Keeps w1 w') : Keeps w w' := Below.trans h (h1.mono h.size)
theorem Keeps.set (h : Keeps w w') {p : Addr} (hp : w.heap.size ≤ p.block) (u : Value) : Keeps w (w'.setCell p u) := Below.setCell h hp u
theorem Own.alloc {b : Nat} {t : TypeId} {vs : List Value} (h : Own w b t vs) (o : Obj) : Own (w.alloc o) b t vs := (Below.heap_alloc w o b h.lt).trans h
theorem Own.far {b : Nat} {t : TypeId} {vs : List Value} (h : Own w b t vs) {p : Addr} (hp : b ≠ p.block) (u : Value) : Own (w.setCell p u) b t vs := (Below.heap_setCell w p u b hp).trans h
theorem Own.far2 {b R : Nat} {t : TypeId} {vs : List Value} (h : Own w b t vs) (hp : b ≠ R) {x y : Value} : Own ((w.setCell ⟨R, 0, none⟩ x).setCell ⟨R, 1, none⟩ y) b t vs := (h.far (p := ⟨R, 0, none⟩) hp x).far (p := ⟨R, 1, none⟩) hp y
theorem Own.grown {b : Nat} {t : TypeId} {vs : List Value} (h : Own w b t vs) {row : Option Nat} (hg : w.grownBy w' row) (hne : some b ≠ row) : Own w' b t vs := (hg.block b h.lt hne).trans h
theorem Own.keep {b : Nat} {t : TypeId} {vs : List Value} (h : Own w b t vs) {B : Nat} (hb : Below B w w') (hB : b < B) : Own w' b t vs := (hb.block b hB).trans h
theorem Own.below {b : Nat} {t : TypeId} {vs : List Value} (h : Own w b t vs) (hb : Below w.heap.size w w') : Own w' b t vs := h.keep hb h.lt

theorem u32s_length (xs : List Nat) : (u32s xs).length = xs.length := by simp [u32s]
theorem u32s_get (xs : List Nat) (i : Nat) (h : i < xs.length) : (u32s xs)[i]? = some (u32 xs i) := by
 simp [u32s, u32, ix, h]
theorem u32s_set (xs : List Nat) (i x : Nat) : (u32s xs).set i (.int .u32 (x : Nat)) = u32s (xs.set i x) := by
 simp [u32s, List.map_set]
theorem Own.u32cell {b : Nat} {t : TypeId} {xs : List Nat} (h : Own w b t (u32s xs)) {i : Nat} (hi : i < xs.length) : w.cell? ⟨b, i, none⟩ = some (.int .u32 (ix xs i : Nat)) := by
 rw [h.cell, u32s_get xs i hi]; rfl
theorem Own.u32set {b : Nat} {t : TypeId} {xs : List Nat} (h : Own w b t (u32s xs)) (i x : Nat) : Own (w.setCell ⟨b, i, none⟩ (.int .u32 (x : Nat))) b t (u32s (xs.set i x)) := by
 rw [← u32s_set]; exact h.set i _
theorem Own.put {b : Nat} {t : TypeId} {xs : List Nat} (h : Own w b t (u32s xs)) (i x : Nat) {z : Int} (e : z = (x : Int)) : Own (w.setCell ⟨b, i, none⟩ (.int .u32 z)) b t (u32s (xs.set i x)) := by
 subst e; exact h.u32set i x
theorem Own.row {b : Nat} {t : TypeId} {xs : List Nat} (h : Own w b t (u32s xs)) : Row w (some ⟨b, 0, none⟩) xs.length (u32 xs) := fun _ =>
 ⟨b, 0, rfl, h.lt, fun j hj => by rw [Nat.zero_add]; exact h.u32cell hj⟩

def noU32 : Value → Bool | .int .u32 _ => false | _ => true
theorem Row.put {xs : List Nat} {R : Nat} {t : TypeId} {vs : List Value} (h : Row w A n (u32 xs)) (hR : Own w R t vs) (hv : vs.all noU32 = true) (i : Nat) (u : Value) : Row (w.setCell ⟨R, i, none⟩ u) A n (u32 xs) := fun hn => by
 obtain ⟨b, o, rfl, hlt, hc⟩ := h hn
 have hne : b ≠ R := by
  rintro rfl
  have h0 := hc 0 hn
  rw [hR.cell] at h0
  have := List.all_eq_true.1 hv _ (List.mem_of_getElem? h0)
  simp [u32, noU32] at this
 exact ⟨b, o, rfl, by simpa [World.setCell] using hlt, fun j hj => (World.cell?_of_block (Below.heap_setCell w ⟨R, i, none⟩ u b hne)).trans (hc j hj)⟩
theorem U32.put {xs : List Nat} {R : Nat} {t : TypeId} {vs : List Value} (h : U32 w v xs) (hR : Own w R t vs) (hv : vs.all noU32 = true) (i : Nat) (u : Value) : U32 (w.setCell ⟨R, i, none⟩ u) v xs := by
 obtain ⟨A, c, rfl, h1, h2, h0, h3⟩ := h
 exact ⟨A, c, rfl, h1, h2, h0, h3.put hR hv i u⟩
theorem Row.setCell {B : Nat} (h : Row w A n f) (hB : ∀ b o, A = some ⟨b, o, none⟩ → b < B) {p : Addr} (hp : B ≤ p.block) (u : Value) : Row (w.setCell p u) A n f := fun hn => by
 obtain ⟨b, o, rfl, hlt, hc⟩ := h hn
 have := hB b o rfl
 exact ⟨b, o, rfl, by simpa [World.setCell] using hlt, fun j hj => (Below.cell ((Below.refl B w).setCell hp u) (p := ⟨b, o + j, none⟩) this).trans (hc j hj)⟩
end

theorem U32.of_own {w : World} {base : Nat} {t : TypeId} {v : Value} {n : Nat} {xs : List Nat} (h : w.ownsRow base t 1 v n (u32s xs)) : U32 w v xs := by
 have hn : xs.length = n := by have := h.1; rw [u32s_length] at this; omega
 subst hn
 rcases h.2 with ⟨rfl, h0⟩ | ⟨g, cap, cur, rfl, _, hg, hc, hm, hs, ht⟩
 ·have : xs = [] := List.eq_nil_of_length_eq_zero h0
  subst this
  exact U32.nil
 ·refine ⟨_, cap, rfl, hc, hm, (by intro h; cases h), fun hp => ⟨g, 0, rfl, (Array.getElem?_eq_some_iff.1 hg).1, fun j hj => ?_⟩⟩
  rw [Nat.zero_add, cell_of_row w g j cur t (0, 0) hg]
  have := u32s_get xs j hj
  rw [← ht, List.getElem?_take] at this
  split at this
  ·simpa using this
  ·cases this
theorem newcell (w : World) (x : Value) (t : TypeId) : ∀ (j : Nat) (u : Value), [x][j]? = some u → (w.alloc (.cells #[x] t)).cell? ((⟨w.heap.size, 0, none⟩ : Addr).add j) = some u := by
 intro j u h
 cases j with
 | zero => simp at h; subst h; exact (Own.new w t [x]).cell 0
 | succ j => simp at h
theorem u32s_snoc (xs : List Nat) (x : Nat) {z : Int} (e : z = (x : Int)) : u32s xs ++ [Value.int .u32 z] = u32s (xs ++ [x]) := by subst e; simp [u32s]
theorem madeCells_u32 (n : Nat) : madeCells #[Value.int .u32 0] n = (u32s (List.replicate n 0)).toArray := by
 apply Array.ext
 ·simp [madeCells, u32s]
 ·intro i h1 h2
  simp [madeCells, u32s, Nat.mod_one]
theorem trimL_row {w : World} {A : Option Addr} {xs : List Nat} (h : Row w A xs.length (u32 xs)) : Row w A (trimL xs).length (u32 (trimL xs)) := by
 refine (h.take (trimL_length_le xs)).congr fun j hj => ?_
 unfold u32
 rw [show ix (trimL xs) j = ix xs j by
  rw [trimL_take xs]; exact ix_take xs _ j hj]
theorem U32.trim {w : World} {A : Option Addr} {c : Nat} {xs : List Nat} (h : Row w A xs.length (u32 xs)) (h1 : xs.length ≤ c) (h2 : c ≤ maxLen) (h0 : A = none → c = 0) : U32 w (.slice A (trimL xs).length c) (trimL xs) :=
 ⟨A, c, rfl, Nat.le_trans (trimL_length_le xs) h1, h2, h0, trimL_row h⟩

theorem owns_trim {w : World} {base b : Nat} {t : TypeId} {out : List Nat} {N : Nat} (h : Own w b t (u32s out)) (hl : out.length = N) (hb : base ≤ b) (hm : N ≤ maxLen) :
 w.ownsRow base t 1 (.slice (some ⟨b, 0, none⟩) (trimL out).length N) (trimL out).length (u32s (trimL out)) := by
 refine ⟨by simp [u32s], .inr ⟨b, N, (u32s out).toArray, rfl, hb, h, by have := trimL_length_le out; omega, hm, by simp [u32s, hl], ?_⟩⟩
 have := trimL_take out
 simp only [Nat.mul_one]
 conv => rhs; rw [this]
 simp [u32s, List.map_take]
theorem wpList_append_row {P : Program} {w : World} {ops : Array Oper} {rest : List Oper} {o : Oper} {a : Act} {Q : Exit → Act → World → Prop} (hgd : o.guard = none) (s x : Operand) (t : TypeId)
 (ho : o.op = .call { callee := .builtin .append, args := #[s, x], argTypes := #[t, t] })
 (base : Nat) (e : TypeId) (i : TypeInfo) (z : Value) (bytes : Nat) (ht : P.underlying t = some (.slice e)) (hi : P.info? e = some i) (hz : i.zero = some z)
 (hsize : i.size = 1) (hby : i.bytes = bytes) (hzs : z.cells.size = 1)
 (v : Value) (n : Nat) (xs : List Value) (hs : a.eval s = v) (hown : w.ownsRow base e 1 v n xs)
 (A : Option Addr) (m c : Nat) (f : Nat → Value) (hx : a.eval x = .slice A m c) (hA : A = none → c = 0) (hmc : m ≤ c) (hr : Row w A m f) (h1 : ∀ j, (f j).oneCell' = true)
 (h63 : n + m ≤ maxLen) (hbytes : (n + m) * bytes ≤ 140737488355328) (hbase : base ≤ w.heap.size)
 (h : ∀ v' w', w'.ownsRow base e 1 v' (n + m) (xs ++ (List.range m).map f) → w.grownBy w' v.ownBlock → wpList P ops Q rest (a.put o.dst v') w') : wpList P ops Q (o :: rest) a w := by
 rcases A with _ | ad
 ·obtain rfl := hA rfl
  obtain rfl : m = 0 := by omega
  exact wpList_append_own_none hgd s x t ho base e i 1 ht hi v n xs hs hown hx (h v w (by simpa using hown) ⟨rfl, rfl, rfl, Nat.le_refl _, fun _ _ _ => rfl⟩)
 ·refine wpList_append_own w hgd s x t ho base e i z 1 bytes ht hi hz hsize hby hzs (by omega) v n xs hs hown ad m c ((List.range m).map f) hx (by simp) ?_ (by intro u hu; obtain ⟨j, _, rfl⟩ := List.mem_map.1 hu; exact h1 j) h63 hbytes hbase (fun v' w' h2 h3 _ => h v' w' h2 h3)
  intro j u hu
  have hj : j < m := by
   rcases Nat.lt_or_ge j m with h | h
   ·exact h
   ·rw [List.getElem?_eq_none (by simpa using h)] at hu; cases hu
  obtain ⟨b, off, e1, _, hc⟩ := hr (by omega)
  cases e1
  rw [List.getElem?_map, List.getElem?_range hj] at hu
  cases hu
  have e2 : (⟨b, off, none⟩ : Addr).add j = ⟨b, off + j, none⟩ := by unfold Addr.add; split <;> simp_all
  rw [e2]
  exact hc j hj
theorem u32s_take (xs : List Nat) (k : Nat) (h : k ≤ xs.length) : (List.range k).map (u32 xs) = u32s (xs.take k) := by
 apply List.ext_getElem
 ·simp [u32s, h]
 ·intro i h1 h2
  have h3 : i < xs.length := by simp [u32s] at h2; omega
  simp [u32s, u32, ix, h3]
theorem u32s_range (xs : List Nat) : (List.range xs.length).map (u32 xs) = u32s xs := by
 apply List.ext_getElem
 ·simp [u32s]
 ·intro i h1 h2
  have h3 : i < xs.length := by simpa [u32s] using h2
  simp [u32s, u32, ix, h3]
theorem bl {B : Nat} {w : World} : Below B w w := Below.refl _ _
end Go.Proofs.YtgcigdahjabimaaGreatDoor
namespace Go.Proofs.YtgcigdahjabimaaGreatDoor
open Go.RowKit Go.Shelf

variable {F : Fence} {n : Nat} {P : Program}

def SeqIdx (F : Fence) (n : Nat) (P : Program) (g : Nat) (lb : Array Value) (encs : Nat → Array Value) (Kp : World → World → Prop) (N : Nat) (w : World) : Prop :=
 ∀ (l : Nat) (J Jx : Nat → World → Prop) (W : World), Below w.heap.size w W → AbidesFrom W.heap.size J → AbidesFrom W.heap.size Jx →
  (∀ k W1, J k W1 → k < N → YieldAt F (n - 1) P l (encs k) W1 fun e W' =>
   (e = .returned (.bool true) ∧ J (k + 1) W' ∧ Kp W1 W') ∨ (e = .returned (.bool false) ∧ Jx (k + 1) W')) →
  J 0 W →
  CallsIn F n P g (#[.func (.yield l) #[] #[]] ++ lb) W fun e W' => (∃ v, e = .returned v) ∧ (J N W' ∨ ∃ k, k ≤ N ∧ Jx k W')

def idxPost (B : Nat) (Kp : World → World → Prop) (I : Nat → World → Prop) (Ix : Code → Nat → World → Prop) (k : Nat) (W : World) : Exit → Act → World → Prop
 | .normal, _, W' => KeepsFrom B W W' ∧ Kp W W' ∧ I (k + 1) W'
 | .ret, _, W' => KeepsFrom B W W' ∧ Ix .ret (k + 1) W'
 | .exit id, _, W' => KeepsFrom B W W' ∧ Ix (.exit id) (k + 1) W'
 | .goto t, _, W' => KeepsFrom B W W' ∧ Ix (.goto t) (k + 1) W'
 | .panic _, _, _ => False
 | .outgrown, _, _ => False

theorem wpIn_range_idx {g : Operand} {ps : Array Tmp} {assign body : Code} {Q : Exit → Act → World → Prop} {a : Act} {w : World}
 (hro : F.round = none) (h1 : 1 ≤ n) {gf : Nat} {lb : Array Value} (hg : a.eval g = .func (.func gf) #[] lb) (hFg : F.fn gf) (eg : ∀ args w, (callFunc gf args).run P w = .ok (.enter gf args) w)
 {encs : Nat → Array Value} {Kp : World → World → Prop} {N : Nat} {w0 : World} (hseq : SeqIdx F (n - 1) P gf lb encs Kp N w0)
 (hKt : ∀ {A B C : World}, Kp A B → Kp B C → Kp A C) (hKb : ∀ (W : World) (l : Nat) (o o' : Obj), w.heap.size ≤ l → W.heap[l]? = some o → o.isCells = false → o.isWalk = false → Kp W (W.putObj l o')) (hb0 : Below w0.heap.size w0 w) (hps : ∀ x, (encs x).size = ps.size)
 (I : Nat → World → Prop) (Ix : Code → Nat → World → Prop) (hI : OwnFrom w.heap.size I) (hIx : ∀ c, OwnFrom w.heap.size (Ix c)) (h0 : I 0 w) (a₁ : Nat → Act)
 (hassign : ∀ (l : Nat) (x : Nat) (W : World) (K : Act → World → Prop), K (a₁ x) W →
  assign.wpIn (F.inRound l) (n - 1 - 1) P (Exit.then K (fun _ _ _ => False)) { tmps := (ps.zip (encs x)).foldl (fun t (p, v) => t.setIfInBounds p v) a.tmps, defers := [] } W)
 (hbody : ∀ (l : Nat) (k : Nat) (W : World), I k W → k < N → body.wpIn (F.inRound l) (n - 1 - 1) P (idxPost w.heap.size Kp I Ix k W) (a₁ k) W)
 (hdone : ∀ (D : Nat) (W : World), w.heap.size ≤ D → I N W → W.heap[D]? = some (.deferred (some [])) → Q .normal { a with defers := { target := .collected D, args := #[] } :: a.defers } W)
 (hstop : ∀ (D : Nat) (c : Code) (k : Nat) (W : World), w.heap.size ≤ D → k ≤ N → Ix c k W → W.heap[D]? = some (.deferred (some [])) → c.wpIn F n P Q { a with defers := { target := .collected D, args := #[] } :: a.defers } W) :
 (Code.rangeFunc g ps assign body).wpIn F n P Q a w := by
 refine wpIn_rangeFunc ?_
 intro fn hfn
 rw [hro]
 -- the loop's record, and the world in which the iterator is called
 let rec_ : LoopState → Option Code → Loop := fun st pe => { state := st, pending := pe, fn, tmps := a.tmps, params := ps, assign, body, defers := w.heap.size }
 obtain ⟨rec, hrec⟩ : ∃ rec, rec = rec_ := ⟨_, rfl⟩
 obtain ⟨W1, hW1⟩ : ∃ W1, (w.alloc (.deferred (some []))).alloc (.loop (rec .ready none)) = W1 := ⟨_, rfl⟩
 have hsz : W1.heap.size = w.heap.size + 2 := by rw [← hW1]; simp
 have hL1 : W1.heap[w.heap.size + 1]? = some (.loop (rec .ready none)) := by
  rw [← hW1]; have := World.alloc_heap_new (w.alloc (.deferred (some []))) (.loop (rec .ready none)); rwa [World.size_alloc] at this
 have hK1 : W1.heap[w.heap.size]? = some (.deferred (some [])) := by
  rw [← hW1]; exact (Below.heap_alloc _ _ _ (by simp)).trans (World.alloc_heap_new w _)
 have hI1 : I 0 W1 := by rw [← hW1]; exact hI.alloc _ (hI.alloc _ h0)
 have hb1 : Below w0.heap.size w0 W1 := by
  rw [← hW1]; exact hb0.trans ((((Below.refl _ w).alloc (Nat.le_refl _) _).alloc (by simp) _).mono hb0.size)
 refine ⟨w.heap.size + 1, [{ target := .collected w.heap.size, args := #[] }], W1, { target := .fn (.func gf) lb, args := #[.func (.yield (w.heap.size + 1)) #[] #[]] }, W1, gf,
  #[.func (.yield (w.heap.size + 1)) #[] #[]] ++ lb, W1, ?enter, ?target, ?leads, ?invoke, fun _ => h1, ?call⟩
 case enter => rw [← hW1, hrec]; exact run_enterLoop_outer _ _ _ _ _
 case target =>
  simp only [resolve, hg]
  simp [go_sem]
 case leads => intro f' hf'; simp [Target.leads] at hf'; subst hf'; exact hFg
 case invoke => simp [invoke, go_sem, eg]
 case call =>
  have wide : ∀ {A : World} {row : Option Nat}, (∀ r, row = some r → W1.heap.size ≤ r ∧ ∃ o : Obj, A.heap[r]? = some o ∧ o.isWalk = true) → ∀ r, row = some r → w.heap.size ≤ r ∧ ∃ o : Obj, A.heap[r]? = some o ∧ o.isCells = false :=
   fun hr r e => by
    obtain ⟨hB, o, ho, hw⟩ := hr r e
    exact ⟨by omega, o, ho, Obj.not_cells_of_walk hw⟩
  refine (hseq (w.heap.size + 1)
   (fun k W => I k W ∧ W.heap[w.heap.size + 1]? = some (.loop (rec .ready none)) ∧ W.heap[w.heap.size]? = some (.deferred (some [])))
   (fun k W => ∃ c, Ix c k W ∧ W.heap[w.heap.size + 1]? = some (.loop (rec .done (some c))) ∧ W.heap[w.heap.size]? = some (.deferred (some [])))
   W1 hb1 ?ab1 ?ab2 ?rounds ⟨hI1, hL1, hK1⟩).mono ?after
  case ab1 =>
   rintro s A B row ⟨hs, hl, hd⟩ hg' hr
   exact ⟨hI s A B row hs hg' (wide hr), (grownBy_keeps hg' (fun r e => (hr r e).2) hl rfl).trans hl, (grownBy_keeps hg' (fun r e => (hr r e).2) hd rfl).trans hd⟩
  case ab2 =>
   rintro s A B row ⟨c, hs, hl, hd⟩ hg' hr
   exact ⟨c, hIx c s A B row hs hg' (wide hr), (grownBy_keeps hg' (fun r e => (hr r e).2) hl rfl).trans hl, (grownBy_keeps hg' (fun r e => (hr r e).2) hd rfl).trans hd⟩
  case rounds =>
   rintro k W ⟨hi, hl, hd⟩ hlt
   have hsW : w.heap.size + 1 < W.heap.size := (Array.getElem?_eq_some_iff.1 hl).1
   have hy := run_yield (P := P) (args := encs k) hl (by rw [hrec]; exact hps k)
   rw [hrec] at hy
   refine ⟨fn, _, assign, body, hy, roundIn_of_wpIn hfn (hassign _ k W _ ⟨_, run_beginRound hl (by rw [hrec]), ?_⟩)⟩
   have hl2 : (W.putObj (w.heap.size + 1) (.loop { rec .ready none with state := .busy })).heap[w.heap.size + 1]? = some (.loop { rec .ready none with state := .busy }) := World.putObj_heap_same hsW
   have hd2 : (W.putObj (w.heap.size + 1) (.loop { rec .ready none with state := .busy })).heap[w.heap.size]? = some (.deferred (some [])) := (World.putObj_heap_other (by omega)).trans hd
   have hkp : Kp W (W.putObj (w.heap.size + 1) (.loop { rec .ready none with state := .busy })) := hKb _ _ _ _ (by omega) hl rfl rfl
   refine wpIn_mono (hbody _ k _ (hI.putObj _ hi (by omega) hl rfl) hlt) ?_
   -- behind the body: the record is put back
   have back : ∀ (jump : Option Code) (W3 : World), KeepsFrom w.heap.size (W.putObj (w.heap.size + 1) (.loop { rec .ready none with state := .busy })) W3 →
    (Instr.endRound (w.heap.size + 1) jump).run P W3 = .ok (.bool jump.isNone) (W3.putObj (w.heap.size + 1) (.loop (rec (if jump.isNone then .ready else .done) jump))) ∧
    W3.heap[w.heap.size + 1]? = some (.loop { rec .ready none with state := .busy }) ∧
    (W3.putObj (w.heap.size + 1) (.loop (rec (if jump.isNone then .ready else .done) jump))).heap[w.heap.size + 1]? = some (.loop (rec (if jump.isNone then .ready else .done) jump)) ∧
    (W3.putObj (w.heap.size + 1) (.loop (rec (if jump.isNone then .ready else .done) jump))).heap[w.heap.size]? = some (.deferred (some [])) := fun jump W3 hk3 => by
    have hl3 := hk3.same _ _ (by omega) hl2 rfl
    have hrun := run_endRound (P := P) jump hl3
    rw [hrec] at hrun ⊢
    exact ⟨hrun, by rw [hrec] at hl3; exact hl3, World.putObj_heap_same (Array.getElem?_eq_some_iff.1 hl3).1, (World.putObj_heap_other (by omega)).trans (hk3.same _ _ (Nat.le_refl _) hd2 rfl)⟩
   intro e a3 W3 hp
   cases e with
   | normal =>
    obtain ⟨hk3, hkp3, hi3⟩ := hp
    obtain ⟨hr, hl3, hl4, hd4⟩ := back none W3 hk3
    exact ⟨_, _, hr, .inl ⟨rfl, ⟨hI.putObj _ hi3 (by omega) hl3 rfl, hl4, hd4⟩, hKt (hKt hkp hkp3) (hKb _ _ _ _ (by omega) hl3 rfl rfl)⟩⟩
   | ret =>
    obtain ⟨hr, hl3, hl4, hd4⟩ := back (some .ret) W3 hp.1
    exact ⟨_, _, hr, .inr ⟨rfl, .ret, (hIx _).putObj _ hp.2 (by omega) hl3 rfl, hl4, hd4⟩⟩
   | exit id =>
    obtain ⟨hr, hl3, hl4, hd4⟩ := back (some (.exit id)) W3 hp.1
    exact ⟨_, _, hr, .inr ⟨rfl, .exit id, (hIx _).putObj _ hp.2 (by omega) hl3 rfl, hl4, hd4⟩⟩
   | goto t =>
    obtain ⟨hr, hl3, hl4, hd4⟩ := back (some (.goto t)) W3 hp.1
    exact ⟨_, _, hr, .inr ⟨rfl, .goto t, (hIx _).putObj _ hp.2 (by omega) hl3 rfl, hl4, hd4⟩⟩
   | panic ch => exact hp.elim
   | outgrown => exact hp.elim
  case after =>
   rintro e W2 ⟨⟨v, rfl⟩, (⟨hi, hl, hd⟩ | ⟨k, hkN, c, hi, hl, hd⟩)⟩
   ·exact ⟨none, _, by have := run_endLoop (P := P) hl (by rw [hrec]; simp [rec_]); rw [hrec] at this; exact this, hdone _ _ (Nat.le_refl _) (hI.putObj _ hi (by omega) hl rfl) ((World.putObj_heap_other (by omega)).trans hd)⟩
   ·exact ⟨some c, _, by have := run_endLoop (P := P) hl (by rw [hrec]; simp [rec_]); rw [hrec] at this; exact this, hstop _ c k _ (Nat.le_refl _) hkN ((hIx c).putObj _ hi (by omega) hl rfl) ((World.putObj_heap_other (by omega)).trans hd)⟩

theorem Own.nc {A B : World} {row : Option Nat} {b : Nat} {t : TypeId} {vs : List Value} (h : Own A b t vs) (hg : A.grownBy B row) (hr : ∀ r, row = some r → ∃ o : Obj, A.heap[r]? = some o ∧ o.isCells = false) : Own B b t vs := by
 unfold Own at h ⊢
 rw [hg.block b (Array.getElem?_eq_some_iff.1 h).1 (fun e => by
  obtain ⟨o, ho, hc⟩ := hr b e.symm
  rw [h] at ho; cases ho; cases hc)]
 exact h
theorem Row.nc {A B : World} {row : Option Nat} {a : Option Addr} {m : Nat} {f : Nat → Value} (h : Row A a m f) (hg : A.grownBy B row) (hr : ∀ r, row = some r → ∃ o : Obj, A.heap[r]? = some o ∧ o.isCells = false) : Row B a m f := fun hn => by
 obtain ⟨b, o, e, hlt, hc⟩ := h hn
 refine ⟨b, o, e, Nat.lt_of_lt_of_le hlt hg.size, fun j hj => ?_⟩
 refine (World.cell?_of_block (hg.block b hlt fun e' => ?_)).trans (hc j hj)
 obtain ⟨ob, ho, hcl⟩ := hr b e'.symm
 have h0 := hc j hj
 unfold World.cell? at h0
 rw [ho] at h0
 cases ob <;> simp [Obj.isCells] at hcl h0
theorem U32.nc {A B : World} {row : Option Nat} {v : Value} {xs : List Nat} (h : U32 A v xs) (hg : A.grownBy B row) (hr : ∀ r, row = some r → ∃ o : Obj, A.heap[r]? = some o ∧ o.isCells = false) : U32 B v xs := by
 obtain ⟨a, c, rfl, h1, h2, h0, h3⟩ := h
 exact ⟨a, c, rfl, h1, h2, h0, h3.nc hg hr⟩
end Go.Proofs.YtgcigdahjabimaaGreatDoor
namespace Go.Proofs.YtgcigdahjabimaaGreatDoor
open Go.RowKit

theorem ret_slice {A : Option Addr} {n m c : Nat} (h : n = m) : Ending.returned (.slice A n c) = .returned (.slice A m c) := by rw [h]

set_option maxHeartbeats 400000 in
theorem trim_any (A : Option Addr) (c : Nat) (xs : List Nat) (w : World) (h : Row w A xs.length (u32 xs)) (hc : xs.length ≤ c) (hm : c ≤ maxLen) :
 Calls Tryz.prog 134 #[.slice A xs.length c] w fun e w' => e = .returned (.slice A (trimL xs).length c) ∧ w = w' := by
 unfold maxLen at hm
 go_enter Tryz.func134, Tryz.ntmps134
 go_wp2
 go_loop [0] (fun g => ∃ k : Nat, k ≤ xs.length ∧ trimL (xs.take k) = trimL xs ∧ g = .slice A k c) (fun g => lenOf g)
 case atStart => exact ⟨_, Nat.le_refl _, by simp, rfl⟩
 case round =>
  obtain ⟨k, hk, ht, rfl⟩ := hrel
  have HT := Lib.hid ht
  clear ht
  rcases Nat.eq_zero_or_pos k with rfl | hpos
  ·go_wp2
   go_ret
   exact ⟨by rw [← HT.out]; simp [trimL], rfl⟩
  ·obtain ⟨j, rfl⟩ : ∃ j, k = j + 1 := ⟨k - 1, by omega⟩
   obtain ⟨b, o, rfl, hb, hcell⟩ := h (by omega)
   have hx : w.cell? ⟨b, o + j, none⟩ = some (.int .u32 (ix xs j : Nat)) := hcell j (by omega)
   have hts := take_snoc xs j (by omega)
   clear hcell
   by_cases hz : ix xs j = 0
   ·have HZ := Lib.hid hz
    rw [hz] at hx
    clear hz
    have HS := Lib.hid hts
    clear hts
    go_wp2
    go_round
    case rel => exact ⟨j, by omega, by rw [← HT.out, HS.out, HZ.out, trimL_snoc_zero], rfl⟩
    case measure => simp [lenOf]
   ·have hb2 : (((ix xs j : Nat) : Int) == 0) = false := by simpa using hz
    have HS := Lib.hid hts
    clear hts
    go_wp2
    go_ret
    exact ⟨ret_slice (by rw [← HT.out, HS.out, trimL_snoc _ _ hz]; simp; omega), rfl⟩

theorem at_any (A : Option Addr) (c : Nat) (xs : List Nat) (i : Nat) (w : World) (h : Row w A xs.length (u32 xs)) (hm : xs.length ≤ 1000000000) (hi : i ≤ 1000000000) :
 Calls Tryz.prog 196 #[.slice A xs.length c, .int .i64 (i : Nat)] w fun e w' => e = .returned (.int .u32 (ix xs i : Nat)) ∧ w = w' := by
 by_cases hlt : i < xs.length
 ·obtain ⟨b, o, rfl, hb, hcell⟩ := h (by omega)
  have hx : w.cell? ⟨b, o + i, none⟩ = some (.int .u32 (ix xs i : Nat)) := hcell i hlt
  go_enter Tryz.func196, Tryz.ntmps196
  go_wp2
  go_ret
  exact ⟨rfl, rfl⟩
 ·have HZ := Lib.hid (ix_past xs i (by omega))
  go_enter Tryz.func196, Tryz.ntmps196
  go_wp2
  go_ret
  exact ⟨by rw [HZ.out]; rfl, rfl⟩

theorem trim_n (A : Option Addr) (n c : Nat) (xs : List Nat) (w : World) (e : xs.length = n) (h : Row w A n (u32 xs)) (hc : n ≤ c) (hm : c ≤ maxLen) :
 Calls Tryz.prog 134 #[.slice A n c] w fun e w' => e = .returned (.slice A (trimL xs).length c) ∧ w = w' := by
 subst e
 exact trim_any A c xs w h hc hm
theorem at_n (A : Option Addr) (n c : Nat) (xs : List Nat) (i : Nat) (w : World) (e : xs.length = n) (h : Row w A n (u32 xs)) (hm : n ≤ 1000000000) (hi : i ≤ 1000000000) :
 Calls Tryz.prog 196 #[.slice A n c, .int .i64 (i : Nat)] w fun e w' => e = .returned (.int .u32 (ix xs i : Nat)) ∧ w = w' := by
 subst e
 exact at_any A c xs i w h hm hi
theorem info_u32 : (Tryz.prog.info? 109).map (fun i => (i.zero, i.size, i.bytes)) = some (some (.int .u32 0), 1, 4) := by kernel_rfl
theorem make_u32 (k : Int) (n : Nat) (e : k = (n : Int)) (h : n ≤ 4000000) : ∀ u : World, (Instr.makeSlice 27 (.int .i64 k) (.int .i64 k)).run Tryz.prog u =
 .ok (.slice (some ⟨u.heap.size, 0, none⟩) n n) (u.alloc (.cells (u32s (List.replicate n 0)).toArray 109)) := fun u => by
 subst e
 obtain ⟨i0, hi, hz0, hz1, hz2⟩ := info_parts info_u32
 have h := run_make (P := Tryz.prog) u 27 109 i0 (.int .u32 0) Tryz.underlying27 hi hz0 .i64 .i64 (n : Int) (n : Int) (by omega) (Int.le_refl _) (by rw [hz2]; omega) (by omega)
 rw [← madeCells_u32]
 simpa [hz1, Value.cells] using h

set_option maxRecDepth 100000 in
set_option maxHeartbeats 400000 in
theorem plus_any (A D : Option Addr) (c1 c2 : Nat) (xs ys : List Nat) (w : World) (h1 : Row w A xs.length (u32 xs)) (h2 : Row w D ys.length (u32 ys))
 (ha : AllB xs) (hb : AllB ys) (hm1 : xs.length ≤ 1000000) (hm2 : ys.length ≤ 1000000) :
 Calls Tryz.prog 171 #[.slice A xs.length c1, .slice D ys.length c2] w fun e w' => ∃ v, e = .returned v ∧ U32 w' v (dig (val xs + val ys)) ∧ Keeps w w' := by
 obtain ⟨N, hN⟩ : ∃ N, N = max xs.length ys.length + 1 := ⟨_, rfl⟩
 have hN1 : N ≤ 4000000 := by omega
 have hN2 : xs.length + 1 ≤ N := by omega
 have hN3 : ys.length + 1 ≤ N := by omega
 rcases Nat.lt_or_ge xs.length ys.length with hle | hle
 all_goals
  first
  | have hmk := make_u32 (xs.length + 1) N (by omega) hN1
  | have hmk := make_u32 (ys.length + 1) N (by omega) hN1
  have HN := Lib.hid hN
  clear hN
  go_enter Tryz.func171, Tryz.ntmps171
  go_wp2
  have hown := Own.new w 109 (u32s (List.replicate N 0))
  have hk : Keeps w (w.alloc (.cells (u32s (List.replicate N 0)).toArray 109)) := bl.alloc (Nat.le_refl _) _
  go_loopw [6, 18] (fun c i wr => ∃ (k cc : Nat) (out : List Nat), k ≤ N ∧ i = .int .i64 (k : Nat) ∧ c = .int .u32 (cc : Nat) ∧ cc ≤ 1 ∧ out.length = N ∧ AllB out ∧
   val (out.take k) + cc * 1000000000 ^ k = val (xs.take k) + val (ys.take k) ∧ Own wr w.heap.size 109 (u32s out) ∧ Keeps w wr)
   (fun _ i _ => N - (intOf i).toNat)
  case atStart => exact ⟨0, 0, List.replicate N 0, by omega, rfl, rfl, by omega, by simp, AllB.replicate N, by simp [val], hown, hk⟩
  case round =>
   obtain ⟨k, cc, out, hkN, rfl, rfl, hcc, hol, hob, hval, hown1, hk1⟩ := hrel
   have HV := Lib.hid hval
   have HL := Lib.hid hol
   clear hval hol
   by_cases hlt : k < N
   ·have hc0 := hown1.u32cell (i := k) (by rw [HL.out]; exact hlt)
    have hf0 := hown1.frozen k
    have hx : (ix xs k : Int) < 1000000000 := by have := ha.ix k; omega
    have hy : (ix ys k : Int) < 1000000000 := by have := hb.ix k; omega
    rcases Int.lt_or_le ((ix xs k : Int) + ix ys k + cc) 1000000000 with hs | hs
    ·go_wp2_with fail
     refine (at_any A c1 xs k wr (h1.below hk1) (by omega) (by omega)).mono ?_
     rintro e w1 ⟨rfl, rfl⟩
     go_wp2_with fail
     refine (at_any D c2 ys k wr (h2.below hk1) (by omega) (by omega)).mono ?_
     rintro e w1 ⟨rfl, rfl⟩
     have HD : decide ((1000000000 : Int) ≤ (ix xs k : Int) + ix ys k + cc) = false := decide_eq_false (by omega)
     go_wp2
     go_roundw
     case rel => exact ⟨k + 1, 0, out.set k (ix xs k + ix ys k + cc), by omega, by go_num, rfl, by omega, by rw [List.length_set]; exact HL.out,
      hob.set _ _ (by omega), plus_step xs ys out k cc _ 0 (by rw [HL.out]; exact hlt) HV.out (by omega), hown1.put k _ (by omega), hk1.setCell (Nat.le_refl _) _⟩
     case measure => simp [intOf]; omega
    ·go_wp2_with fail
     refine (at_any A c1 xs k wr (h1.below hk1) (by omega) (by omega)).mono ?_
     rintro e w1 ⟨rfl, rfl⟩
     go_wp2_with fail
     refine (at_any D c2 ys k wr (h2.below hk1) (by omega) (by omega)).mono ?_
     rintro e w1 ⟨rfl, rfl⟩
     go_wp2
     go_roundw
     case rel => exact ⟨k + 1, 1, out.set k (ix xs k + ix ys k + cc - 1000000000), by omega, by go_num, rfl, by omega, by rw [List.length_set]; exact HL.out,
      hob.set _ _ (by omega), plus_step xs ys out k cc _ 1 (by rw [HL.out]; exact hlt) HV.out (by omega), hown1.put k _ (by omega), hk1.setCell (Nat.le_refl _) _⟩
     case measure => simp [intOf]; omega
   ·obtain rfl : k = N := by omega
    go_wp2_with fail
    refine (trim_n _ _ _ out wr HL.out (by rw [← HL.out]; exact hown1.row) (Nat.le_refl _) (by simp only [maxLen]; omega)).mono ?_
    rintro e w1 ⟨rfl, rfl⟩
    go_wp2
    go_ret
    refine ⟨_, rfl, ?_, hk1⟩
    rw [← plus_done xs ys out k cc HL.out hN2 hN3 ha hb HV.out, ← trimL_eq hob]
    exact U32.trim hown1.row (by rw [HL.out]; exact Nat.le_refl _) (by simp only [maxLen]; omega) (by intro h; cases h)

set_option maxRecDepth 100000 in
set_option maxHeartbeats 400000 in
theorem minus_any (A D : Option Addr) (n1 n2 c1 c2 : Nat) (xs ys : List Nat) (w : World) (e1 : xs.length = n1) (e2 : ys.length = n2) (h1 : Row w A n1 (u32 xs)) (h2 : Row w D n2 (u32 ys))
 (ha : AllB xs) (hb : AllB ys) (hm1 : n1 ≤ 1000000) (hl : n2 ≤ n1) (hle : val ys ≤ val xs) :
 Calls Tryz.prog 172 #[.slice A n1 c1, .slice D n2 c2] w fun e w' => ∃ v, e = .returned v ∧ U32 w' v (dig (val xs - val ys)) ∧ Keeps w w' := by
 have hmk := make_u32 n1 n1 rfl (by omega)
 have HE1 := Lib.hid e1
 have HE2 := Lib.hid e2
 clear e1 e2
 go_enter Tryz.func172, Tryz.ntmps172
 go_wp2
 have hown := Own.new w 109 (u32s (List.replicate n1 0))
 have hk : Keeps w (w.alloc (.cells (u32s (List.replicate n1 0)).toArray 109)) := bl.alloc (Nat.le_refl _) _
 go_loopw [6, 14] (fun c i wr => ∃ (k cc : Nat) (out : List Nat), k ≤ n1 ∧ i = .int .i64 (k : Nat) ∧ c = .int .u32 (cc : Nat) ∧ cc ≤ 1 ∧ out.length = n1 ∧ AllB out ∧
  val (out.take k) + val (ys.take k) = val (xs.take k) + cc * 1000000000 ^ k ∧ Own wr w.heap.size 109 (u32s out) ∧ Keeps w wr)
  (fun _ i _ => n1 - (intOf i).toNat)
 case atStart => exact ⟨0, 0, List.replicate n1 0, by omega, rfl, rfl, by omega, by simp, AllB.replicate n1, by simp [val], hown, hk⟩
 case round =>
  obtain ⟨k, cc, out, hkN, rfl, rfl, hcc, hol, hob, hval, hown1, hk1⟩ := hrel
  have HV := Lib.hid hval
  have HL := Lib.hid hol
  clear hval hol
  by_cases hlt : k < n1
  ·have hc0 := hown1.u32cell (i := k) (by rw [HL.out]; exact hlt)
   have hf0 := hown1.frozen k
   have hx : (ix xs k : Int) < 1000000000 := by have := ha.ix k; omega
   have hy : (ix ys k : Int) < 1000000000 := by have := hb.ix k; omega
   obtain ⟨b, o, hA, hbl, hcell⟩ := (h1.below hk1) (by omega)
   have hxc : wr.cell? ⟨b, o + k, none⟩ = some (.int .u32 (ix xs k : Nat)) := hcell k hlt
   subst hA
   clear hcell
   by_cases hs : ix xs k < ix ys k + cc
   ·have HD : decide ((ix xs k : Int) < (ix ys k : Int) + cc) = true := decide_eq_true (by omega)
    go_wp2_with fail
    refine (at_n D n2 c2 ys k wr HE2.out (h2.below hk1) (by omega) (by omega)).mono ?_
    rintro e w1 ⟨rfl, rfl⟩
    go_wp2
    go_roundw
    case rel => exact ⟨k + 1, 1, out.set k (ix xs k + 1000000000 - (ix ys k + cc)), by omega, by go_num, rfl, by omega, by rw [List.length_set]; exact HL.out,
     hob.set _ _ (by omega), minus_step xs ys out k cc _ 1 (by rw [HL.out]; exact hlt) HV.out (by omega), hown1.put k _ (by omega), hk1.setCell (Nat.le_refl _) _⟩
    case measure => simp [intOf]; omega
   ·have HD : decide ((ix xs k : Int) < (ix ys k : Int) + cc) = false := decide_eq_false (by omega)
    go_wp2_with fail
    refine (at_n D n2 c2 ys k wr HE2.out (h2.below hk1) (by omega) (by omega)).mono ?_
    rintro e w1 ⟨rfl, rfl⟩
    go_wp2
    go_roundw
    case rel => exact ⟨k + 1, 0, out.set k (ix xs k - (ix ys k + cc)), by omega, by go_num, rfl, by omega, by rw [List.length_set]; exact HL.out,
     hob.set _ _ (by omega), minus_step xs ys out k cc _ 0 (by rw [HL.out]; exact hlt) HV.out (by omega), hown1.put k _ (by omega), hk1.setCell (Nat.le_refl _) _⟩
    case measure => simp [intOf]; omega
  ·obtain rfl : k = n1 := by omega
   go_wp2_with fail
   refine (trim_n _ _ _ out wr HL.out (by rw [← HL.out]; exact hown1.row) (Nat.le_refl _) (by simp only [maxLen]; omega)).mono ?_
   rintro e w1 ⟨rfl, rfl⟩
   go_wp2
   go_ret
   refine ⟨_, rfl, ?_, hk1⟩
   have HE := HE1.out
   subst HE
   have HF := HE2.out
   subst HF
   rw [← minus_done xs ys out cc HL.out hob ha hcc hl hle HV.out, ← trimL_eq hob]
   exact U32.trim hown1.row (by rw [HL.out]; exact Nat.le_refl _) (by simp only [maxLen]; omega) (by intro h; cases h)
def sgn (neg : Bool) (m : Nat) : Int := if neg then -(m : Int) else m
def IntRep (w : World) (V : Value) (z : Int) : Prop := ∃ v, V = .agg #[.bool (decide (z < 0)), v] ∧ U32 w v (dig z.natAbs)
theorem IntRep.below {w w' : World} {V : Value} {z : Int} (h : IntRep w V z) (hb : Below w.heap.size w w') : IntRep w' V z := by
 obtain ⟨v, rfl, hv⟩ := h
 exact ⟨v, rfl, hv.below hb⟩

theorem IntRep.zero (w : World) : IntRep w (.agg #[.bool false, .slice none 0 0]) 0 := ⟨.slice none 0 0, by simp, by simpa [dig_zero] using U32.nil⟩
theorem IntRep.mk {w : World} {v : Value} {neg : Bool} {m : Nat} (h : U32 w v (dig m)) (hm : m ≠ 0) : IntRep w (.agg #[.bool neg, v]) (sgn neg m) := by
 cases neg
 ·exact ⟨v, by simp [sgn], by simpa [sgn] using h⟩
 ·exact ⟨v, by simp [sgn]; omega, by simpa [sgn] using h⟩

set_option maxRecDepth 100000 in
set_option maxHeartbeats 400000 in
theorem made_any (neg : Bool) (A : Option Addr) (n c : Nat) (xs : List Nat) (w : World) (e : xs.length = n) (h : Row w A n (u32 xs)) (ha : AllB xs) (hc : n ≤ c) (hm : c ≤ maxLen) (h0 : A = none → c = 0) :
 Calls Tryz.prog 90 #[.bool neg, .slice A n c] w fun e w' => ∃ V, e = .returned V ∧ IntRep w' V (sgn neg (val xs)) ∧ Keeps w w' := by
 have HT := Lib.hid (trim_n A n c xs (w.alloc (.cells #[.bool false, .slice none 0 0] 29)) e (h.below (bl.alloc (Nat.le_refl _) _)) hc hm)
 have HL := Lib.hid (trimL_eq ha)
 go_enter Tryz.func90, Tryz.ntmps90
 go_wp2_with fail
 refine HT.out.mono ?_
 rintro e w1 ⟨rfl, rfl⟩
 go_wp2
 ·refine bodyPost_ret (v := .agg #[.bool false, .slice none 0 0]) (by simp [results, Tryz.results90, go_sem]) rfl ?_
  have h0 : val xs = 0 := by
   rw [← dig_length_zero, ← HL.out]
   have : (((trimL xs).length : Int) == 0) = true := by assumption
   simpa using this
  rw [h0]
  exact ⟨_, rfl, by simpa [sgn] using IntRep.zero _, bl.alloc (Nat.le_refl _) _⟩
 ·refine bodyPost_ret (v := .agg #[.bool neg, .slice A (trimL xs).length c]) (by simp [results, Tryz.results90, go_sem]) rfl ?_
  have h1 : val xs ≠ 0 := by
   have : (((trimL xs).length : Int) == 0) = false := by assumption
   rw [← Nat.pos_iff_ne_zero, Nat.pos_iff_ne_zero, ← dig_length_pos, ← HL.out]
   simp at this
   exact List.length_pos_iff.2 this
  exact ⟨_, rfl, IntRep.mk (by rw [← HL.out]; exact (U32.trim (by rw [e]; exact h) (by omega) hm h0).below (bl.alloc (Nat.le_refl _) _)) h1, bl.alloc (Nat.le_refl _) _⟩

set_option maxRecDepth 100000 in
set_option maxHeartbeats 400000 in
theorem split_any (m : Nat) (w : World) (hm : (m : Int) ≤ 18446744073709551615) :
 Calls Tryz.prog 91 #[.int .u64 (m : Nat)] w fun e w' => ∃ v, e = .returned v ∧ U32 w' v (dig m) ∧ Keeps w w' := by
 obtain ⟨i0, hi, hz0, hz1, hz2⟩ := info_parts info_u32
 have hd3 : (dig m).length ≤ 3 := dig_length_le (by omega)
 go_enter Tryz.func91, Tryz.ntmps91
 go_wp2
 go_loopw [0, 3] (fun x g wr => ∃ (k : Nat) (out : List Nat), k ≤ m ∧ x = .int .u64 (k : Nat) ∧ out ++ dig k = dig m ∧ wr.ownsRow w.heap.size 109 1 g out.length (u32s out) ∧ Keeps w wr)
  (fun x _ _ => (intOf x).toNat)
 case atStart => exact ⟨m, [], Nat.le_refl _, rfl, rfl, World.ownsRow_nil _ _ _ _, Below.refl _ _⟩
 case round =>
  obtain ⟨k, out, hk, rfl, hd, hown, hk1⟩ := hrel
  by_cases hpos : 0 < k
  ·have hol : out.length ≤ 2 := by
    have := congrArg List.length hd
    rw [List.length_append] at this
    have := dig_length_pos.2 (show k ≠ 0 by omega)
    omega
   rw [dig_pos (by omega)] at hd
   have HD := Lib.hid hd
   clear hd
   go_wp2_with (at_builtin; refine wpList_append_own _ rfl _ _ 27 rfl w.heap.size 109 i0 (.int .u32 0) 1 4 Tryz.underlying27 hi hz0 hz1 hz2 rfl (by decide) _ _ _ rfl (hown.alloc _) ⟨wr.heap.size, 0, none⟩ 1 1 [.int .u32 ((k : Int) % 1000000000)] rfl rfl (newcell _ _ _) (by simp [Value.oneCell']) (by simp only [maxLen]; omega) (by omega) (by have := hk1.size; simp; omega) ?_; intro v' w1 hown' hgrow _)
   rw [u32s_snoc out (k % 1000000000) (by omega)] at hown'
   have hk2 : Keeps w w1 := (hk1.alloc hk1.size _).grown hgrow (by have := hk1.size; simp; omega) (fun b e => (hown.lt b e).1)
   go_roundw
   case rel => exact ⟨k / 1000000000, out ++ [k % 1000000000], by omega, by go_num, by rw [List.append_assoc]; exact HD.out, by simpa using hown', hk2⟩
   case measure => simp [intOf]; omega
  ·obtain rfl : k = 0 := by omega
   rw [dig_zero, List.append_nil] at hd
   have HD := Lib.hid hd
   clear hd
   go_wp2
   go_ret
   exact ⟨_, rfl, by rw [← HD.out]; exact U32.of_own hown, hk1⟩

set_option maxRecDepth 100000 in
set_option maxHeartbeats 400000 in
theorem clone_any (A : Option Addr) (n c : Nat) (xs : List Nat) (w : World) (e : xs.length = n) (h : Row w A n (u32 xs)) (hc : n ≤ c) (hm : n ≤ 1000000) (h0 : A = none → c = 0) :
 Calls Tryz.prog 132 #[.slice A n c] w fun e w' => ∃ v, e = .returned v ∧ U32 w' v xs ∧ Keeps w w' := by
 obtain ⟨i0, hi, hz0, hz1, hz2⟩ := info_parts info_u32
 have HE := Lib.hid e
 clear e
 cases A with
 | none =>
  obtain rfl := h0 rfl
  obtain rfl : n = 0 := by omega
  have hx := Lib.run_eql_slice_nil (P := Tryz.prog) w 27 109 none 0 0 0 0 Tryz.underlying27
  go_enter Tryz.func132, Tryz.ntmps132
  go_wp2
  go_ret
  exact ⟨_, rfl, by rw [List.eq_nil_of_length_eq_zero HE.out]; exact U32.nil, Below.refl _ _⟩
 | some ad =>
  have hx := Lib.run_eql_slice_nil (P := Tryz.prog) w 27 109 (some ad) n c 0 0 Tryz.underlying27
  go_enter Tryz.func132, Tryz.ntmps132
  go_wp2_with (at_builtin; refine wpList_append_row rfl _ _ 27 rfl w.heap.size 109 i0 (.int .u32 0) 4 Tryz.underlying27 hi hz0 hz1 hz2 rfl _ 0 [] rfl (World.ownsRow_made w #[] 0 (Nat.le_refl _) (by simp [maxLen]) rfl) _ _ _ (u32 xs) rfl h0 hc (h.below (bl.alloc (Nat.le_refl _) _)) (fun j => rfl) (by simp only [maxLen]; omega) (by omega) (by simp) ?_; intro v' w1 hown' hgrow)
  go_ret
  refine ⟨_, rfl, ?_, (bl.alloc (Nat.le_refl _) _).grown hgrow (by simp) (fun b e => by cases e; exact Nat.le_refl _)⟩
  have he := HE.out
  subst he
  rw [List.nil_append, u32s_range] at hown'
  exact U32.of_own hown'

end Go.Proofs.YtgcigdahjabimaaGreatDoor
