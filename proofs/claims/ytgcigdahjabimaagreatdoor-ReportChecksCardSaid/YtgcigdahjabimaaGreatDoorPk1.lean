/- Numbers in groups of nine decimal digits: plain arithmetic, no program in sight. Slices in memory: what a slice value reads as; blocks of the call's own. No program in sight. More on memory: rows of the call's own. No program in sight. The insertion sort of ints by a function of two ints, plainly. No program in sight. Blocks that a call may turn; rows of its own that grow. No program in sight. A range over an iterator whose k-th round is known: one law for the caller, by the number of the round. No program in sight. The walks of the magnitudes' small functions. -/
import Derived.WalkKit
import Derived.Deep.AppendLies
import Derived.Deep.Draws
import Derived.Lib.Hide
import Derived.Laws.AppendOwnNone
import Derived.Maps.AppendAt
import Derived.RangeFuncNested
import Derived.RangeFuncBound
import Derived.RangeFuncCalls
import Derived.RangeFuncLeaves
import Derived.Shelf.Abstract
import Derived.Shelf.RegionOpen
import Derived.OwnWalkIn
import Derived.TacticsInMore
import Derived.LoopNIn
import Derived.LoopIn
import Derived.Test.YtgcigdahjabimaaGreatDoorProg
namespace Go.Proofs.YtgcigdahjabimaaGreatDoor

def val : List Nat → Nat
 | [] => 0
 | x :: r => x + 1000000000 * val r
def ix (xs : List Nat) (j : Nat) : Nat := xs.getD j 0
def AllB (xs : List Nat) : Prop := ∀ x ∈ xs, x < 1000000000
def trimL : List Nat → List Nat
 | [] => []
 | x :: r => match trimL r with
  | [] => if x = 0 then [] else [x]
  | y :: s => x :: y :: s
def dig (n : Nat) : List Nat := if _h : n = 0 then [] else n % 1000000000 :: dig (n / 1000000000)
termination_by n
decreasing_by omega

theorem ix_nil (j : Nat) : ix [] j = 0 := by simp [ix]
theorem ix_zero (x : Nat) (r : List Nat) : ix (x :: r) 0 = x := rfl
theorem ix_succ (x : Nat) (r : List Nat) (j : Nat) : ix (x :: r) (j + 1) = ix r j := by simp [ix]
theorem ix_get (xs : List Nat) (j : Nat) (h : j < xs.length) : ix xs j = xs[j] := by simp [ix, h]
theorem ix_past (xs : List Nat) (j : Nat) (h : xs.length ≤ j) : ix xs j = 0 := by simp [ix, h]
theorem ix_set (xs : List Nat) (k v j : Nat) (h : k < xs.length) : ix (xs.set k v) j = if j = k then v else ix xs j := by
 unfold ix; simp only [List.getD_eq_getElem?_getD, List.getElem?_set]
 by_cases e : k = j
 ·subst e; simp [h]
 ·rw [if_neg e, if_neg (Ne.symm e)]
theorem ix_take (xs : List Nat) (k j : Nat) (h : j < k) : ix (xs.take k) j = ix xs j := by
 simp [ix, h]
theorem ix_drop (xs : List Nat) (k j : Nat) : ix (xs.drop k) j = ix xs (k + j) := by simp [ix]
theorem take_snoc (xs : List Nat) (k : Nat) (h : k < xs.length) : xs.take (k + 1) = xs.take k ++ [ix xs k] := by
 rw [List.take_succ_eq_append_getElem h, ix_get xs k h]
theorem drop_cons (xs : List Nat) (k : Nat) (h : k < xs.length) : xs.drop k = ix xs k :: xs.drop (k + 1) := by
 rw [List.drop_eq_getElem_cons h, ix_get xs k h]
theorem ext_ix (xs ys : List Nat) (hl : xs.length = ys.length) (h : ∀ j, j < xs.length → ix xs j = ix ys j) : xs = ys := by
 apply List.ext_getElem hl
 intro i h1 h2
 have := h i h1
 rwa [ix_get _ _ h1, ix_get _ _ h2] at this

theorem AllB.nil : AllB [] := by intro x h; cases h
theorem AllB.cons {x : Nat} {r : List Nat} (h : x < 1000000000) (hr : AllB r) : AllB (x :: r) := by
 intro y hy; cases hy with
 | head => exact h
 | tail _ hy => exact hr y hy
theorem AllB.head {x : Nat} {r : List Nat} (h : AllB (x :: r)) : x < 1000000000 := h x (List.mem_cons_self ..)
theorem AllB.tail {x : Nat} {r : List Nat} (h : AllB (x :: r)) : AllB r := fun y hy => h y (List.mem_cons_of_mem _ hy)
theorem AllB.ix {xs : List Nat} (h : AllB xs) (j : Nat) : ix xs j < 1000000000 := by
 rcases Nat.lt_or_ge j xs.length with hj | hj
 ·rw [ix_get xs j hj]; exact h _ (List.getElem_mem hj)
 ·rw [ix_past xs j hj]; omega
theorem AllB.append {xs ys : List Nat} (h : AllB xs) (h' : AllB ys) : AllB (xs ++ ys) := by
 intro x hx; rcases List.mem_append.1 hx with k | k
 ·exact h x k
 ·exact h' x k
theorem AllB.take {xs : List Nat} (h : AllB xs) (k : Nat) : AllB (xs.take k) := fun x hx => h x (List.mem_of_mem_take hx)
theorem AllB.drop {xs : List Nat} (h : AllB xs) (k : Nat) : AllB (xs.drop k) := fun x hx => h x (List.mem_of_mem_drop hx)
theorem AllB.set {xs : List Nat} (h : AllB xs) (k v : Nat) (hv : v < 1000000000) : AllB (xs.set k v) := by
 intro x hx
 rcases List.mem_or_eq_of_mem_set hx with hx | rfl
 ·exact h x hx
 ·exact hv
theorem AllB.replicate (n : Nat) : AllB (List.replicate n 0) := by
 intro x hx; have := List.eq_of_mem_replicate hx; omega
theorem AllB.single {x : Nat} (h : x < 1000000000) : AllB [x] := AllB.cons h AllB.nil

theorem val_take_succ (xs : List Nat) (i : Nat) : val (xs.take (i + 1)) = val (xs.take i) + ix xs i * 1000000000 ^ i := by
 induction i generalizing xs with
 | zero => cases xs <;> simp [val, ix]
 | succ i ih =>
  cases xs with
  | nil => simp [val, ix]
  | cons x r =>
   simp only [List.take_succ_cons, val, ix_succ]
   rw [ih]
   grind
theorem val_set (xs : List Nat) (k v : Nat) (hk : k < xs.length) : val (xs.set k v) + ix xs k * 1000000000 ^ k = val xs + v * 1000000000 ^ k := by
 induction xs generalizing k with
 | nil => simp at hk
 | cons x r ih =>
  cases k with
  | zero => simp [val, ix]; omega
  | succ k =>
   have := ih k (by simpa using hk)
   simp only [List.set_cons_succ, val, ix_succ]
   grind
theorem val_append (xs ys : List Nat) : val (xs ++ ys) = val xs + 1000000000 ^ xs.length * val ys := by
 induction xs with
 | nil => simp [val]
 | cons x r ih => simp only [List.cons_append, val, ih, List.length_cons]; grind
theorem val_snoc (xs : List Nat) (y : Nat) : val (xs ++ [y]) = val xs + y * 1000000000 ^ xs.length := by
 rw [val_append]; simp [val]; grind
theorem val_replicate (n : Nat) : val (List.replicate n 0) = 0 := by
 induction n with
 | zero => rfl
 | succ n ih => simp [List.replicate_succ, val, ih]
theorem val_lt {xs : List Nat} (h : AllB xs) : val xs < 1000000000 ^ xs.length := by
 induction xs with
 | nil => simp [val]
 | cons x r ih =>
  have h1 := ih h.tail
  have h2 := h.head
  simp only [val, List.length_cons, Nat.pow_succ]
  omega
theorem val_drop (xs : List Nat) (k : Nat) (h : k < xs.length) : val (xs.drop k) = ix xs k + 1000000000 * val (xs.drop (k + 1)) := by
 rw [drop_cons xs k h]; rfl
theorem val_split (xs : List Nat) (k : Nat) (h : k ≤ xs.length) : val xs = val (xs.take k) + 1000000000 ^ k * val (xs.drop k) := by
 have := val_append (xs.take k) (xs.drop k)
 rw [List.take_append_drop] at this
 rw [this, List.length_take, Nat.min_eq_left h]

theorem dig_zero : dig 0 = [] := by unfold dig; simp
theorem dig_pos {n : Nat} (h : n ≠ 0) : dig n = n % 1000000000 :: dig (n / 1000000000) := by
 rw [dig]; simp [h]
theorem val_dig (n : Nat) : val (dig n) = n := by
 induction n using Nat.strongRecOn with
 | ind n ih =>
  by_cases h : n = 0
  ·subst h; rw [dig_zero]; rfl
  ·rw [dig_pos h, val, ih _ (by omega)]; omega
theorem AllB.dig (n : Nat) : AllB (dig n) := by
 induction n using Nat.strongRecOn with
 | ind n ih =>
  by_cases h : n = 0
  ·subst h; rw [dig_zero]; exact AllB.nil
  ·rw [dig_pos h]; exact AllB.cons (by omega) (ih _ (by omega))
theorem dig_eq_nil {n : Nat} : dig n = [] ↔ n = 0 := by
 constructor
 ·intro h; have := val_dig n; rw [h] at this; exact this.symm
 ·rintro rfl; exact dig_zero
theorem dig_length_pos {n : Nat} : 0 < (dig n).length ↔ n ≠ 0 := by
 rw [List.length_pos_iff]; exact not_congr dig_eq_nil
theorem dig_length_zero {n : Nat} : (dig n).length = 0 ↔ n = 0 := by
 rw [List.length_eq_zero_iff]; exact dig_eq_nil
theorem dig_inj {m n : Nat} (h : dig m = dig n) : m = n := by
 rw [← val_dig m, ← val_dig n, h]
theorem trimL_dig (n : Nat) : trimL (dig n) = dig n := by
 induction n using Nat.strongRecOn with
 | ind n ih =>
  by_cases h : n = 0
  ·subst h; rw [dig_zero]; rfl
  ·rw [dig_pos h, trimL, ih _ (by omega)]
   by_cases h2 : n / 1000000000 = 0
   ·rw [h2, dig_zero]; simp only; rw [if_neg (by omega)]
   ·rw [dig_pos h2]
theorem trimL_eq {xs : List Nat} (h : AllB xs) : trimL xs = dig (val xs) := by
 induction xs with
 | nil => simp [trimL, val, dig_zero]
 | cons x r ih =>
  have h1 := ih h.tail
  have h2 := h.head
  simp only [trimL, h1, val]
  by_cases hr : val r = 0
  ·rw [hr, dig_zero]
   by_cases hx : x = 0
   ·subst hx; simp [dig_zero]
   ·simp only [if_neg hx]
    rw [dig_pos (by omega), show (x + 1000000000 * 0) / 1000000000 = 0 by omega, dig_zero]
    congr 1; omega
  ·rw [dig_pos (n := x + 1000000000 * val r) (by omega), show (x + 1000000000 * val r) / 1000000000 = val r by omega,
    show (x + 1000000000 * val r) % 1000000000 = x by omega]
   cases hd : dig (val r) with
   | nil => exact absurd (dig_eq_nil.1 hd) hr
   | cons y s => rfl
theorem trimL_snoc_zero (xs : List Nat) : trimL (xs ++ [0]) = trimL xs := by
 induction xs with
 | nil => rfl
 | cons x r ih => simp [trimL, ih]
theorem trimL_snoc (xs : List Nat) (d : Nat) (h : d ≠ 0) : trimL (xs ++ [d]) = xs ++ [d] := by
 induction xs with
 | nil => simp [trimL, h]
 | cons x r ih =>
  simp only [List.cons_append, trimL, ih]
  cases r <;> rfl
theorem trimL_length_le (xs : List Nat) : (trimL xs).length ≤ xs.length := by
 induction xs with
 | nil => simp [trimL]
 | cons x r ih =>
  simp only [trimL]
  split
  ·split <;> simp
  ·next y s h => rw [h] at ih; simpa using ih
theorem trimL_take (xs : List Nat) : trimL xs = xs.take (trimL xs).length := by
 induction xs with
 | nil => rfl
 | cons x r ih =>
  simp only [trimL]
  split
  ·split <;> simp
  ·next y s h => rw [h] at ih; simp only [List.length_cons, List.take_succ_cons] at ih ⊢; rw [← ih]
theorem trimL_of_last {xs : List Nat} (h : ∀ (_ : 0 < xs.length), ix xs (xs.length - 1) ≠ 0) : trimL xs = xs := by
 rcases List.eq_nil_or_concat xs with rfl | ⟨ys, y, rfl⟩
 ·rfl
 ·have := h (by simp)
  simp only [List.concat_eq_append] at *
  refine trimL_snoc ys y ?_
  simpa [ix] using this
theorem dig_last {n : Nat} (h : n ≠ 0) : ix (dig n) ((dig n).length - 1) ≠ 0 := by
 intro h0
 have hp := dig_length_pos.2 h
 have e : dig n = (dig n).take ((dig n).length - 1) ++ [0] := by
  have := take_snoc (dig n) ((dig n).length - 1) (by omega)
  rw [show (dig n).length - 1 + 1 = (dig n).length by omega, List.take_length, h0] at this
  exact this
 have t := trimL_dig n
 rw [e, trimL_snoc_zero] at t
 have l := trimL_length_le ((dig n).take ((dig n).length - 1))
 rw [t] at l
 simp at l
 omega
theorem dig_of {xs : List Nat} (h : AllB xs) (hl : ∀ (_ : 0 < xs.length), ix xs (xs.length - 1) ≠ 0) : dig (val xs) = xs := by
 rw [← trimL_eq h, trimL_of_last hl]
theorem dig_length_le {n k : Nat} (h : n < 1000000000 ^ k) : (dig n).length ≤ k := by
 induction k generalizing n with
 | zero => rw [show n = 0 by simpa using h, dig_zero]; simp
 | succ k ih =>
  by_cases h0 : n = 0
  ·subst h0; rw [dig_zero]; simp
  ·rw [dig_pos h0, List.length_cons]
   have := ih (n := n / 1000000000) (by rw [Nat.pow_succ] at h; omega)
   omega
theorem dig_lt (n : Nat) : n < 1000000000 ^ (dig n).length := by
 have := val_lt (AllB.dig n)
 rwa [val_dig] at this
theorem dig_length_mono {m n : Nat} (h : m ≤ n) : (dig m).length ≤ (dig n).length :=
 dig_length_le (Nat.lt_of_le_of_lt h (dig_lt n))
theorem dig_ge {n : Nat} (h : n ≠ 0) : 1000000000 ^ ((dig n).length - 1) ≤ n := by
 rcases Nat.lt_or_ge n (1000000000 ^ ((dig n).length - 1)) with hl | hl
 ·have := dig_length_le hl
  have := dig_length_pos.2 h
  omega
 ·exact hl
theorem dig_length_add (m n : Nat) : (dig (m + n)).length ≤ max (dig m).length (dig n).length + 1 := by
 apply dig_length_le
 have h1 := dig_lt m
 have h2 := dig_lt n
 have h3 : 1000000000 ^ (dig m).length ≤ 1000000000 ^ max (dig m).length (dig n).length := Nat.pow_le_pow_right (by omega) (by omega)
 have h4 : 1000000000 ^ (dig n).length ≤ 1000000000 ^ max (dig m).length (dig n).length := Nat.pow_le_pow_right (by omega) (by omega)
 rw [Nat.pow_succ]
 omega
theorem dig_length_mul (m n : Nat) : (dig (m * n)).length ≤ (dig m).length + (dig n).length := by
 apply dig_length_le
 rw [Nat.pow_add]
 have h1 := dig_lt m
 have h2 := dig_lt n
 exact Nat.mul_lt_mul_of_lt_of_lt h1 h2
theorem dig_small {n : Nat} (h : n ≠ 0) (h2 : n < 1000000000) : dig n = [n] := by
 rw [dig_pos h, show n / 1000000000 = 0 by omega, dig_zero, show n % 1000000000 = n by omega]

theorem take_set_self (xs : List Nat) (k v : Nat) : (xs.set k v).take k = xs.take k := by
 rw [List.take_set_of_le (Nat.le_refl _)]
theorem val_put (xs : List Nat) (k v : Nat) (h : k < xs.length) : val ((xs.set k v).take (k + 1)) = val (xs.take k) + v * 1000000000 ^ k := by
 rw [val_take_succ, take_set_self, ix_set xs k v k h, if_pos rfl]
theorem plus_step (xs ys out : List Nat) (k cc s c : Nat) (hk : k < out.length) (hv : val (out.take k) + cc * 1000000000 ^ k = val (xs.take k) + val (ys.take k))
 (e : s + c * 1000000000 = ix xs k + ix ys k + cc) :
 val ((out.set k s).take (k + 1)) + c * 1000000000 ^ (k + 1) = val (xs.take (k + 1)) + val (ys.take (k + 1)) := by
 rw [val_put out k s hk, val_take_succ xs, val_take_succ ys]
 have : (s + c * 1000000000) * 1000000000 ^ k = (ix xs k + ix ys k + cc) * 1000000000 ^ k := by rw [e]
 grind
theorem plus_done (xs ys out : List Nat) (N cc : Nat) (h : out.length = N) (h1 : xs.length + 1 ≤ N) (h2 : ys.length + 1 ≤ N) (hx : AllB xs) (hy : AllB ys)
 (hv : val (out.take N) + cc * 1000000000 ^ N = val (xs.take N) + val (ys.take N)) : val out = val xs + val ys := by
 rw [List.take_of_length_le (by omega), List.take_of_length_le (by omega), List.take_of_length_le (by omega)] at hv
 have a := val_lt hx
 have b := val_lt hy
 obtain ⟨M, rfl⟩ : ∃ M, N = M + 1 := ⟨N - 1, by omega⟩
 have a' : 1000000000 ^ xs.length ≤ 1000000000 ^ M := Nat.pow_le_pow_right (by omega) (by omega)
 have b' : 1000000000 ^ ys.length ≤ 1000000000 ^ M := Nat.pow_le_pow_right (by omega) (by omega)
 rw [Nat.pow_succ] at hv
 cases cc with
 | zero => omega
 | succ c =>
  have : (c + 1) * (1000000000 ^ M * 1000000000) = c * (1000000000 ^ M * 1000000000) + 1000000000 ^ M * 1000000000 := by grind
  have : 0 ≤ c * (1000000000 ^ M * 1000000000) := Nat.zero_le _
  omega
theorem minus_step (xs ys out : List Nat) (k cc s c : Nat) (hk : k < out.length) (hv : val (out.take k) + val (ys.take k) = val (xs.take k) + cc * 1000000000 ^ k)
 (e : s + ix ys k + cc = ix xs k + c * 1000000000) :
 val ((out.set k s).take (k + 1)) + val (ys.take (k + 1)) = val (xs.take (k + 1)) + c * 1000000000 ^ (k + 1) := by
 rw [val_put out k s hk, val_take_succ xs, val_take_succ ys]
 have : (s + ix ys k + cc) * 1000000000 ^ k = (ix xs k + c * 1000000000) * 1000000000 ^ k := by rw [e]
 grind
theorem minus_done (xs ys out : List Nat) (cc : Nat) (h : out.length = xs.length) (ho : AllB out) (hx : AllB xs) (hc : cc ≤ 1) (hl : ys.length ≤ xs.length) (hle : val ys ≤ val xs)
 (hv : val (out.take xs.length) + val (ys.take xs.length) = val (xs.take xs.length) + cc * 1000000000 ^ xs.length) : val out = val xs - val ys := by
 rw [List.take_of_length_le (by omega), List.take_of_length_le (by omega), List.take_of_length_le (by omega)] at hv
 have a := val_lt ho
 have b := val_lt hx
 rw [h] at a
 have : cc = 0 ∨ cc = 1 := by omega
 rcases this with rfl | rfl
 ·omega
 ·omega
theorem times_step (out : List Nat) (k s o c c' p q R : Nat) (hk : k < out.length) (ho : ix out k = o) (hv : val out + c * 1000000000 ^ k = R) (e : s + c' * 1000000000 = o + p * q + c) :
 val (out.set k s) + c' * 1000000000 ^ (k + 1) = R + p * q * 1000000000 ^ k := by
 have h := val_set out k s hk
 rw [ho] at h
 have : (s + c' * 1000000000) * 1000000000 ^ k = (o + p * q + c) * 1000000000 ^ k := by rw [e]
 grind
theorem val_lt_of {xs ys : List Nat} (hx : AllB xs) (i : Nat) (hi : i < xs.length) (hl : xs.length = ys.length) (hd : xs.drop (i + 1) = ys.drop (i + 1)) (h : ix xs i < ix ys i) : val xs < val ys := by
 rw [val_split xs (i + 1) (by omega), val_split ys (i + 1) (by omega), hd, val_take_succ, val_take_succ]
 have h1 := val_lt (hx.take i)
 rw [List.length_take, Nat.min_eq_left (by omega)] at h1
 have h2 : (ix xs i + 1) * 1000000000 ^ i ≤ ix ys i * 1000000000 ^ i := Nat.mul_le_mul_right _ h
 have h3 : (ix xs i + 1) * 1000000000 ^ i = ix xs i * 1000000000 ^ i + 1000000000 ^ i := by grind
 omega
theorem dig_lt_of_length {a b : Nat} (h : (dig a).length < (dig b).length) : a < b := by
 rcases Nat.lt_or_ge a b with h1 | h1
 ·exact h1
 ·have := dig_length_mono h1
  omega
theorem dig_cmp_at (a b i : Nat) (hl : (dig a).length = (dig b).length) (hi : i < (dig a).length) (hd : (dig a).drop (i + 1) = (dig b).drop (i + 1)) (hne : ix (dig a) i ≠ ix (dig b) i) :
 ((a : Int) - b).sign = ((ix (dig a) i : Int) - ix (dig b) i).sign := by
 rcases Nat.lt_or_gt_of_ne hne with h | h
 ·have := val_lt_of (AllB.dig a) i hi hl hd h
  rw [val_dig, val_dig] at this
  rw [Int.sign_eq_neg_one_of_neg (by omega), Int.sign_eq_neg_one_of_neg (by omega)]
 ·have := val_lt_of (AllB.dig b) i (by omega) hl.symm hd.symm h
  rw [val_dig, val_dig] at this
  rw [Int.sign_eq_one_of_pos (by omega), Int.sign_eq_one_of_pos (by omega)]
theorem mul_lt_base (p q : Nat) (hp : p < 1000000000) (hq : q < 1000000000) : p * q ≤ 999999998000000001 := by
 have := Nat.mul_le_mul (show p ≤ 999999999 by omega) (show q ≤ 999999999 by omega)
 omega
theorem times_in (xs ys out : List Nat) (k j c s c' : Nat) (hk : k + j < out.length)
 (hv : val out + c * 1000000000 ^ (k + j) = val (xs.take k) * val ys + ix xs k * val (ys.take j) * 1000000000 ^ k)
 (e : s + c' * 1000000000 = ix out (k + j) + ix xs k * ix ys j + c) :
 val (out.set (k + j) s) + c' * 1000000000 ^ (k + (j + 1)) = val (xs.take k) * val ys + ix xs k * val (ys.take (j + 1)) * 1000000000 ^ k := by
 have h := times_step out (k + j) s _ c c' _ _ _ hk rfl hv e
 rw [val_take_succ ys, show k + (j + 1) = k + j + 1 by omega, h, Nat.pow_add]
 grind
theorem times_out (xs ys out : List Nat) (k c : Nat) (hk : k + ys.length < out.length) (h0 : ix out (k + ys.length) = 0)
 (hv : val out + c * 1000000000 ^ (k + ys.length) = val (xs.take k) * val ys + ix xs k * val (ys.take ys.length) * 1000000000 ^ k) :
 val (out.set (k + ys.length) c) = val (xs.take (k + 1)) * val ys := by
 have h := val_set out (k + ys.length) c hk
 rw [h0] at h
 rw [List.take_length] at hv
 rw [val_take_succ xs]
 grind
end Go.Proofs.YtgcigdahjabimaaGreatDoor
namespace Go.Proofs.YtgcigdahjabimaaGreatDoor
open Go.RowKit

def Row (w : World) (A : Option Addr) (n : Nat) (f : Nat → Value) : Prop :=
 0 < n → ∃ b o, A = some ⟨b, o, none⟩ ∧ b < w.heap.size ∧ ∀ j, j < n → w.cell? ⟨b, o + j, none⟩ = some (f j)
def Sl (w : World) (v : Value) (n : Nat) (f : Nat → Value) : Prop :=
 ∃ A c, v = .slice A n c ∧ n ≤ c ∧ c ≤ maxLen ∧ (A = none → c = 0) ∧ Row w A n f
def u32 (xs : List Nat) (j : Nat) : Value := .int .u32 (ix xs j : Nat)
def U32 (w : World) (v : Value) (xs : List Nat) : Prop := Sl w v xs.length (u32 xs)
def Own (w : World) (b : Nat) (t : TypeId) (vs : List Value) : Prop := w.heap[b]? = some (.cells vs.toArray t (0, 0))
def u32s (xs : List Nat) : List Value := xs.map fun (x : Nat) => Value.int .u32 x
abbrev Keeps (w w' : World) : Prop := Below w.heap.size w w'
def lenOf : Value → Nat | .slice _ n _ => n | _ => 0

section
variable {w w' : World} {A : Option Addr} {n : Nat} {f : Nat → Value} {v : Value} {xs : List Nat}
theorem Row.zero : Row w A 0 f := fun h => absurd h (by omega)
theorem Row.below (h : Row w A n f) (hb : Below w.heap.size w w') : Row w' A n f := fun hn => by
 obtain ⟨b, o, rfl, hlt, hc⟩ := h hn
 exact ⟨b, o, rfl, Nat.lt_of_lt_of_le hlt hb.size, fun j hj => (hb.cell (p := ⟨b, o + j, none⟩) hlt).trans (hc j hj)⟩
theorem Row.take (h : Row w A n f) {k : Nat} (hk : k ≤ n) : Row w A k f := fun hp => by
 obtain ⟨b, o, rfl, hlt, hc⟩ := h (by omega)
 exact ⟨b, o, rfl, hlt, fun j hj => hc j (by omega)⟩
theorem Row.congr (h : Row w A n f) {g : Nat → Value} (hg : ∀ j, j < n → f j = g j) : Row w A n g := fun hp => by
 obtain ⟨b, o, rfl, hlt, hc⟩ := h hp
 exact ⟨b, o, rfl, hlt, fun j hj => by rw [← hg j hj]; exact hc j hj⟩
theorem Sl.below (h : Sl w v n f) (hb : Below w.heap.size w w') : Sl w' v n f := by
 obtain ⟨A, c, rfl, h1, h2, h0, h3⟩ := h
 exact ⟨A, c, rfl, h1, h2, h0, h3.below hb⟩
theorem U32.below (h : U32 w v xs) (hb : Below w.heap.size w w') : U32 w' v xs := Sl.below h hb
theorem U32.mk {c : Nat} (h : Row w A xs.length (u32 xs)) (h1 : xs.length ≤ c) (h2 : c ≤ maxLen) (h0 : A = none → c = 0) : U32 w (.slice A xs.length c) xs := ⟨A, c, rfl, h1, h2, h0, h⟩
theorem U32.nil : U32 w (.slice none 0 0) [] := ⟨none, 0, rfl, Nat.le_refl _, by simp [maxLen], fun _ => rfl, Row.zero⟩
theorem Row.lt (h : Row w A n f) {b o : Nat} (e : A = some ⟨b, o, none⟩) (hn : 0 < n) : b < w.heap.size := by
 obtain ⟨b', o', e', h1, _⟩ := h hn
 rw [e] at e'
 cases e'
 exact h1

theorem bcell {W w1 : World} (hb : Below W.heap.size W w1) : (∀ b o, b < W.heap.size → w1.cell? ⟨b, o, none⟩ = W.cell? ⟨b, o, none⟩) ∧ (∀ b o, b < W.heap.size → w1.frozen? ⟨b, o, none⟩ = W.frozen? ⟨b, o, none⟩) :=
 ⟨fun b o h => hb.cell (p := ⟨b, o, none⟩) h, fun b o h => hb.frozen (p := ⟨b, o, none⟩) h⟩
theorem Own.lt {b : Nat} {t : TypeId} {vs : List Value} (h : Own w b t vs) : b < w.heap.size := by
 unfold Own at h
 rcases Nat.lt_or_ge b w.heap.size with hlt | hge
 ·exact hlt
 ·rw [Array.getElem?_eq_none hge] at h; cases h
theorem Own.new (w : World) (t : TypeId) (vs : List Value) : Own (w.alloc (.cells vs.toArray t)) w.heap.size t vs := heap_alloc_new w _
theorem Own.cell {b : Nat} {t : TypeId} {vs : List Value} (h : Own w b t vs) (i : Nat) : w.cell? ⟨b, i, none⟩ = vs[i]? := by
 rw [cell_of_row w b i vs.toArray t (0, 0) h]; simp
theorem Own.frozen {b : Nat} {t : TypeId} {vs : List Value} (h : Own w b t vs) (i : Nat) : w.frozen? ⟨b, i, none⟩ = false := by
 unfold Own at h; simp [World.frozen?, h]
theorem Own.set {b : Nat} {t : TypeId} {vs : List Value} (h : Own w b t vs) (i : Nat) (u : Value) : Own (w.setCell ⟨b, i, none⟩ u) b t (vs.set i u) := by
 unfold Own at h ⊢
 simp [World.setCell, Array.getElem?_modify, h]
theorem Own.c0 {b : Nat} {t : TypeId} {x : Value} {r : List Value} (h : Own w b t (x :: r)) : w.cell? ⟨b, 0, none⟩ = some x := by rw [h.cell]; rfl
theorem Own.c1 {b : Nat} {t : TypeId} {x y : Value} {r : List Value} (h : Own w b t (x :: y :: r)) : w.cell? ⟨b, 1, none⟩ = some y := by rw [h.cell]; rfl
theorem Own.two {b : Nat} {t : TypeId} {x y : Value} (h : Own w b t [x, y]) (x' y' : Value) : Own ((w.setCell ⟨b, 0, none⟩ x').setCell ⟨b, 1, none⟩ y') b t [x', y'] := (h.set 0 x').set 1 y'
theorem Own.drew {b : Nat} {t : TypeId} {vs : List Value} (h : Own w b t vs) : Own w.drew b t vs := h
theorem own2 (w : World) (o : Obj) (t : TypeId) (vs : List Value) : Own ((w.alloc o).alloc (.cells vs.toArray t)) (w.heap.size + 1) t vs := by
 have := Own.new (w.alloc o) t vs
 rwa [World.size_alloc] at this
theorem own3 (w : World) (o o' : Obj) (t : TypeId) (vs : List Value) : Own (((w.alloc o).alloc o').alloc (.cells vs.toArray t)) (w.heap.size + 1 + 1) t vs := by
 have := Own.new ((w.alloc o).alloc o') t vs
 rwa [World.size_alloc, World.size_alloc] at this
theorem keep3 (w : World) (o o' o2 : Obj) : Keeps w (((w.alloc o).alloc o').alloc o2) := (((Below.refl _ _).alloc (Nat.le_refl _) _).alloc (by simp) _).alloc (by simp; omega) _
theorem keep2 (w : World) (o o' : Obj) : Keeps w ((w.alloc o).alloc o') := ((Below.refl _ _).alloc (Nat.le_refl _) _).alloc (by simp) _
theorem Keeps.trans' {w1 : World} (h : Keeps w w1) (h1 : Keeps w1 w') : Keeps w w' := Below.trans h (h1.mono h.size)
theorem Keeps.set (h : Keeps w w') {p : Addr} (hp : w.heap.size ≤ p.block) (u : Value) : Keeps w (w'.setCell p u) := Below.setCell h hp u
theorem Own.alloc {b : Nat} {t : TypeId} {vs : List Value} (h : Own w b t vs) (o : Obj) : Own (w.alloc o) b t vs := (Below.heap_alloc w o b h.lt).trans h
theorem Own.far {b : Nat} {t : TypeId} {vs : List Value} (h : Own w b t vs) {p : Addr} (hp : b ≠ p.block) (u : Value) : Own (w.setCell p u) b t vs := (Below.heap_setCell w p u b hp).trans h
theorem Own.far2 {b R : Nat} {t : TypeId} {vs : List Value} (h : Own w b t vs) (hp : b ≠ R) {x y : Value} : Own ((w.setCell ⟨R, 0, none⟩ x).setCell ⟨R, 1, none⟩ y) b t vs := (h.far (p := ⟨R, 0, none⟩) hp x).far (p := ⟨R, 1, none⟩) hp y
theorem Own.grown {b : Nat} {t : TypeId} {vs : List Value} (h : Own w b t vs) {row : Option Nat} (hg : w.grownBy w' row) (hne : some b ≠ row) : Own w' b t vs := (hg.block b h.lt hne).trans h
theorem Own.keep {b : Nat} {t : TypeId} {vs : List Value} (h : Own w b t vs) {B : Nat} (hb : Below B w w') (hB : b < B) : Own w' b t vs := (hb.block b hB).trans h
theorem Own.below {b : Nat} {t : TypeId} {vs : List Value} (h : Own w b t vs) (hb : Below w.heap.size w w') : Own w' b t vs := h.keep hb h.lt

theorem u32s_length (xs : List Nat) : (u32s xs).length = xs.length := by simp [u32s]
theorem u32s_get (xs : List Nat) (i : Nat) (h : i < xs.length) : (u32s xs)[i]? = some (u32 xs i) := by
 simp [u32s, u32, ix, h]
theorem u32s_set (xs : List Nat) (i x : Nat) : (u32s xs).set i (.int .u32 (x : Nat)) = u32s (xs.set i x) := by
 simp [u32s, List.map_set]
theorem Own.u32cell {b : Nat} {t : TypeId} {xs : List Nat} (h : Own w b t (u32s xs)) {i : Nat} (hi : i < xs.length) : w.cell? ⟨b, i, none⟩ = some (.int .u32 (ix xs i : Nat)) := by
 rw [h.cell, u32s_get xs i hi]; rfl
theorem Own.u32set {b : Nat} {t : TypeId} {xs : List Nat} (h : Own w b t (u32s xs)) (i x : Nat) : Own (w.setCell ⟨b, i, none⟩ (.int .u32 (x : Nat))) b t (u32s (xs.set i x)) := by
 rw [← u32s_set]; exact h.set i _
theorem Own.put {b : Nat} {t : TypeId} {xs : List Nat} (h : Own w b t (u32s xs)) (i x : Nat) {z : Int} (e : z = (x : Int)) : Own (w.setCell ⟨b, i, none⟩ (.int .u32 z)) b t (u32s (xs.set i x)) := by
 subst e; exact h.u32set i x
theorem Own.row {b : Nat} {t : TypeId} {xs : List Nat} (h : Own w b t (u32s xs)) : Row w (some ⟨b, 0, none⟩) xs.length (u32 xs) := fun _ =>
 ⟨b, 0, rfl, h.lt, fun j hj => by rw [Nat.zero_add]; exact h.u32cell hj⟩

def noU32 : Value → Bool | .int .u32 _ => false | _ => true
theorem Row.put {xs : List Nat} {R : Nat} {t : TypeId} {vs : List Value} (h : Row w A n (u32 xs)) (hR : Own w R t vs) (hv : vs.all noU32 = true) (i : Nat) (u : Value) : Row (w.setCell ⟨R, i, none⟩ u) A n (u32 xs) := fun hn => by
 obtain ⟨b, o, rfl, hlt, hc⟩ := h hn
 have hne : b ≠ R := by
  rintro rfl
  have h0 := hc 0 hn
  rw [hR.cell] at h0
  have := List.all_eq_true.1 hv _ (List.mem_of_getElem? h0)
  simp [u32, noU32] at this
 exact ⟨b, o, rfl, by simpa [World.setCell] using hlt, fun j hj => (World.cell?_of_block (Below.heap_setCell w ⟨R, i, none⟩ u b hne)).trans (hc j hj)⟩
theorem U32.put {xs : List Nat} {R : Nat} {t : TypeId} {vs : List Value} (h : U32 w v xs) (hR : Own w R t vs) (hv : vs.all noU32 = true) (i : Nat) (u : Value) : U32 (w.setCell ⟨R, i, none⟩ u) v xs := by
 obtain ⟨A, c, rfl, h1, h2, h0, h3⟩ := h
 exact ⟨A, c, rfl, h1, h2, h0, h3.put hR hv i u⟩
theorem Row.setCell {B : Nat} (h : Row w A n f) (hB : ∀ b o, A = some ⟨b, o, none⟩ → b < B) {p : Addr} (hp : B ≤ p.block) (u : Value) : Row (w.setCell p u) A n f := fun hn => by
 obtain ⟨b, o, rfl, hlt, hc⟩ := h hn
 have := hB b o rfl
 exact ⟨b, o, rfl, by simpa [World.setCell] using hlt, fun j hj => (Below.cell ((Below.refl B w).setCell hp u) (p := ⟨b, o + j, none⟩) this).trans (hc j hj)⟩
end

theorem U32.of_own {w : World} {base : Nat} {t : TypeId} {v : Value} {n : Nat} {xs : List Nat} (h : w.ownsRow base t 1 v n (u32s xs)) : U32 w v xs := by
 have hn : xs.length = n := by have := h.1; rw [u32s_length] at this; omega
 subst hn
 rcases h.2 with ⟨rfl, h0⟩ | ⟨g, cap, cur, rfl, _, hg, hc, hm, hs, ht⟩
 ·have : xs = [] := List.eq_nil_of_length_eq_zero h0
  subst this
  exact U32.nil
 ·refine ⟨_, cap, rfl, hc, hm, (by intro h; cases h), fun hp => ⟨g, 0, rfl, (Array.getElem?_eq_some_iff.1 hg).1, fun j hj => ?_⟩⟩
  rw [Nat.zero_add, cell_of_row w g j cur t (0, 0) hg]
  have := u32s_get xs j hj
  rw [← ht, List.getElem?_take] at this
  split at this
  ·simpa using this
  ·cases this
theorem newcell (w : World) (x : Value) (t : TypeId) : ∀ (j : Nat) (u : Value), [x][j]? = some u → (w.alloc (.cells #[x] t)).cell? ((⟨w.heap.size, 0, none⟩ : Addr).add j) = some u := by
 intro j u h
 cases j with
 | zero => simp at h; subst h; exact (Own.new w t [x]).cell 0
 | succ j => simp at h
theorem u32s_snoc (xs : List Nat) (x : Nat) {z : Int} (e : z = (x : Int)) : u32s xs ++ [Value.int .u32 z] = u32s (xs ++ [x]) := by subst e; simp [u32s]
theorem madeCells_u32 (n : Nat) : madeCells #[Value.int .u32 0] n = (u32s (List.replicate n 0)).toArray := by
 apply Array.ext
 ·simp [madeCells, u32s]
 ·intro i h1 h2
  simp [madeCells, u32s, Nat.mod_one]
theorem trimL_row {w : World} {A : Option Addr} {xs : List Nat} (h : Row w A xs.length (u32 xs)) : Row w A (trimL xs).length (u32 (trimL xs)) := by
 refine (h.take (trimL_length_le xs)).congr fun j hj => ?_
 unfold u32
 rw [show ix (trimL xs) j = ix xs j by
  rw [trimL_take xs]; exact ix_take xs _ j hj]
theorem U32.trim {w : World} {A : Option Addr} {c : Nat} {xs : List Nat} (h : Row w A xs.length (u32 xs)) (h1 : xs.length ≤ c) (h2 : c ≤ maxLen) (h0 : A = none → c = 0) : U32 w (.slice A (trimL xs).length c) (trimL xs) :=
 ⟨A, c, rfl, Nat.le_trans (trimL_length_le xs) h1, h2, h0, trimL_row h⟩

theorem owns_trim {w : World} {base b : Nat} {t : TypeId} {out : List Nat} {N : Nat} (h : Own w b t (u32s out)) (hl : out.length = N) (hb : base ≤ b) (hm : N ≤ maxLen) :
 w.ownsRow base t 1 (.slice (some ⟨b, 0, none⟩) (trimL out).length N) (trimL out).length (u32s (trimL out)) := by
 refine ⟨by simp [u32s], .inr ⟨b, N, (u32s out).toArray, rfl, hb, h, by have := trimL_length_le out; omega, hm, by simp [u32s, hl], ?_⟩⟩
 have := trimL_take out
 simp only [Nat.mul_one]
 conv => rhs; rw [this]
 simp [u32s, List.map_take]
theorem wpList_append_row {P : Program} {w : World} {ops : Array Oper} {rest : List Oper} {o : Oper} {a : Act} {Q : Exit → Act → World → Prop} (hgd : o.guard = none) (s x : Operand) (t : TypeId)
 (ho : o.op = .call { callee := .builtin .append, args := #[s, x], argTypes := #[t, t] })
 (base : Nat) (e : TypeId) (i : TypeInfo) (z : Value) (bytes : Nat) (ht : P.underlying t = some (.slice e)) (hi : P.info? e = some i) (hz : i.zero = some z)
 (hsize : i.size = 1) (hby : i.bytes = bytes) (hzs : z.cells.size = 1)
 (v : Value) (n : Nat) (xs : List Value) (hs : a.eval s = v) (hown : w.ownsRow base e 1 v n xs)
 (A : Option Addr) (m c : Nat) (f : Nat → Value) (hx : a.eval x = .slice A m c) (hA : A = none → c = 0) (hmc : m ≤ c) (hr : Row w A m f) (h1 : ∀ j, (f j).oneCell' = true)
 (h63 : n + m ≤ maxLen) (hbytes : (n + m) * bytes ≤ 140737488355328) (hbase : base ≤ w.heap.size)
 (h : ∀ v' w', w'.ownsRow base e 1 v' (n + m) (xs ++ (List.range m).map f) → w.grownBy w' v.ownBlock → wpList P ops Q rest (a.put o.dst v') w') : wpList P ops Q (o :: rest) a w := by
 rcases A with _ | ad
 ·obtain rfl := hA rfl
  obtain rfl : m = 0 := by omega
  exact wpList_append_own_none hgd s x t ho base e i 1 ht hi v n xs hs hown hx (h v w (by simpa using hown) ⟨rfl, rfl, rfl, Nat.le_refl _, fun _ _ _ => rfl⟩)
 ·refine wpList_append_own w hgd s x t ho base e i z 1 bytes ht hi hz hsize hby hzs (by omega) v n xs hs hown ad m c ((List.range m).map f) hx (by simp) ?_ (by intro u hu; obtain ⟨j, _, rfl⟩ := List.mem_map.1 hu; exact h1 j) h63 hbytes hbase (fun v' w' h2 h3 _ => h v' w' h2 h3)
  intro j u hu
  have hj : j < m := by
   rcases Nat.lt_or_ge j m with h | h
   ·exact h
   ·rw [List.getElem?_eq_none (by simpa using h)] at hu; cases hu
  obtain ⟨b, off, e1, _, hc⟩ := hr (by omega)
  cases e1
  rw [List.getElem?_map, List.getElem?_range hj] at hu
  cases hu
  have e2 : (⟨b, off, none⟩ : Addr).add j = ⟨b, off + j, none⟩ := by unfold Addr.add; split <;> simp_all
  rw [e2]
  exact hc j hj
theorem u32s_take (xs : List Nat) (k : Nat) (h : k ≤ xs.length) : (List.range k).map (u32 xs) = u32s (xs.take k) := by
 apply List.ext_getElem
 ·simp [u32s, h]
 ·intro i h1 h2
  have h3 : i < xs.length := by simp [u32s] at h2; omega
  simp [u32s, u32, ix, h3]
theorem u32s_range (xs : List Nat) : (List.range xs.length).map (u32 xs) = u32s xs := by
 apply List.ext_getElem
 ·simp [u32s]
 ·intro i h1 h2
  have h3 : i < xs.length := by simpa [u32s] using h2
  simp [u32s, u32, ix, h3]
theorem bl {B : Nat} {w : World} : Below B w w := Below.refl _ _
theorem made1 (w : World) (t : TypeId) : (w.alloc (.cells #[] t)).ownsRow w.heap.size t 1 (.slice (some ⟨w.heap.size, 0, none⟩) 0 0) 0 [] :=
 World.ownsRow_made w #[] 0 (Nat.le_refl _) (by simp [maxLen]) rfl
theorem made2 (w : World) (o : Obj) (t : TypeId) : ((w.alloc o).alloc (.cells #[] t)).ownsRow (w.heap.size + 1) t 1 (.slice (some ⟨w.heap.size + 1, 0, none⟩) 0 0) 0 [] := by
 have := made1 (w.alloc o) t
 rwa [World.size_alloc] at this
theorem below_drewN {B : Nat} {a w : World} (h : Below B a w) (n : Nat) : Below B a (w.drewN n) := ⟨h.os, h.tape, h.output, h.size, h.block⟩
theorem Own.drewN {w : World} {b : Nat} {t : TypeId} {vs : List Value} (h : Own w b t vs) (n : Nat) : Own (w.drewN n) b t vs := h
theorem Row.drewN {w : World} {A : Option Addr} {m : Nat} {f : Nat → Value} (h : Row w A m f) (n : Nat) : Row (w.drewN n) A m f := h
theorem U32.drewN {w : World} {v : Value} {xs : List Nat} (h : U32 w v xs) (n : Nat) : U32 (w.drewN n) v xs := h
theorem U32.drew {w : World} {v : Value} {xs : List Nat} (h : U32 w v xs) : U32 w.drew v xs := h
theorem Keeps.drewN {w w' : World} (h : Keeps w w') (n : Nat) : Keeps w (w'.drewN n) := below_drewN h n
theorem bne_cast (x : Nat) : (((x : Nat) : Int) != 0) = (x != 0) := by rw [Bool.eq_iff_iff]; simp
theorem wp_append_row {P : Program} {w : World} {o : Oper} {a : Act} {K : Act → World → Prop} {Q : Exit → Act → World → Prop} (s x : Operand) (t : TypeId)
 (ho : o.op = .call { callee := .builtin .append, args := #[s, x], argTypes := #[t, t] })
 (base : Nat) (e : TypeId) (i : TypeInfo) (z : Value) (bytes : Nat) (ht : P.underlying t = some (.slice e)) (hi : P.info? e = some i) (hz : i.zero = some z)
 (hsize : i.size = 1) (hby : i.bytes = bytes) (hzs : z.cells.size = 1)
 (v : Value) (n : Nat) (xs : List Value) (hs : a.eval s = v) (hown : w.ownsRow base e 1 v n xs)
 (A : Option Addr) (m c : Nat) (f : Nat → Value) (hx : a.eval x = .slice A m c) (hA : A = none → c = 0) (hmc : m ≤ c) (hr : Row w A m f) (h1 : ∀ j, (f j).oneCell' = true)
 (h63 : n + m ≤ maxLen) (hbytes : (n + m) * bytes ≤ 140737488355328) (hbase : base ≤ w.heap.size)
 (h : ∀ v' w', w'.ownsRow base e 1 v' (n + m) (xs ++ (List.range m).map f) → w.grownBy w' v.ownBlock → K (a.put o.dst v') w') : o.wp P a w K Q := by
 rcases A with _ | ad
 ·obtain rfl := hA rfl
  obtain rfl : m = 0 := by omega
  have hrun := run_append_owned_none (P := P) (w := w) base t o.type e i 1 ht hi v n xs hown
  unfold Oper.wp
  simp only [execOp, ho, resolve, invoke, builtin, Sem.run_bind, Sem.run_pure, Result.andThen_ok, List.map_toArray, List.map_cons, List.map_nil, hs, hx, hrun]
  exact h v w (by simpa using hown) ⟨rfl, rfl, rfl, Nat.le_refl _, fun _ _ _ => rfl⟩
 ·refine wp_append_own w s x t ho base e i z 1 bytes ht hi hz hsize hby hzs (by omega) v n xs hs hown ad m c ((List.range m).map f) hx (by simp) ?_ (by intro u hu; obtain ⟨j, _, rfl⟩ := List.mem_map.1 hu; exact h1 j) h63 hbytes hbase (fun v' w' h2 h3 _ => h v' w' h2 h3)
  intro j u hu
  have hj : j < m := by
   rcases Nat.lt_or_ge j m with h | h
   ·exact h
   ·rw [List.getElem?_eq_none (by simpa using h)] at hu; cases hu
  obtain ⟨b, off, e1, _, hc⟩ := hr (by omega)
  cases e1
  rw [List.getElem?_map, List.getElem?_range hj] at hu
  cases hu
  have e2 : (⟨b, off, none⟩ : Addr).add j = ⟨b, off + j, none⟩ := by unfold Addr.add; split <;> simp_all
  rw [e2]
  exact hc j hj
theorem step_append_row {P : Program} {w : World} {ops : Array Oper} {o : Oper} {a : Act} {K : Act → World → Prop} {Q : Exit → Act → World → Prop} {E : Prop} (hgd : o.guard = none) (s x : Operand) (t : TypeId)
 (ho : o.op = .call { callee := .builtin .append, args := #[s, x], argTypes := #[t, t] })
 (base : Nat) (e : TypeId) (i : TypeInfo) (z : Value) (bytes : Nat) (ht : P.underlying t = some (.slice e)) (hi : P.info? e = some i) (hz : i.zero = some z)
 (hsize : i.size = 1) (hby : i.bytes = bytes) (hzs : z.cells.size = 1)
 (v : Value) (n : Nat) (xs : List Value) (hs : a.eval s = v) (hown : w.ownsRow base e 1 v n xs)
 (A : Option Addr) (m c : Nat) (f : Nat → Value) (hx : a.eval x = .slice A m c) (hA : A = none → c = 0) (hmc : m ≤ c) (hr : Row w A m f) (h1 : ∀ j, (f j).oneCell' = true)
 (h63 : n + m ≤ maxLen) (hbytes : (n + m) * bytes ≤ 140737488355328) (hbase : base ≤ w.heap.size)
 (h : ∀ v' w', w'.ownsRow base e 1 v' (n + m) (xs ++ (List.range m).map f) → w.grownBy w' v.ownBlock → K (a.put o.dst v') w') :
 if Region.wanted o (yielded ops a.tmps) = true then Oper.wp P o a w K Q else E := by
 have hw : Region.wanted o (yielded ops a.tmps) = true := by simp [Region.wanted, hgd]
 rw [if_pos hw]
 exact wp_append_row s x t ho base e i z bytes ht hi hz hsize hby hzs v n xs hs hown A m c f hx hA hmc hr h1 h63 hbytes hbase h
end Go.Proofs.YtgcigdahjabimaaGreatDoor
namespace Go.Proofs.YtgcigdahjabimaaGreatDoor
def bubI (f : Int → Int → Int) : Nat → List Int → List Int
 | 0, l => l
 | j + 1, l => if f (l.getD (j + 1) 0) (l.getD j 0) < 0 then bubI f j ((l.set (j + 1) (l.getD j 0)).set j (l.getD (j + 1) 0)) else l
def srtI (f : Int → Int → Int) : Nat → List Int → List Int
 | 0, l => l
 | k + 1, l => bubI f k (srtI f k l)
theorem bubI_length (f : Int → Int → Int) : ∀ (j : Nat) (l : List Int), (bubI f j l).length = l.length
 | 0, l => rfl
 | j + 1, l => by
  rw [bubI]
  split
  ·rw [bubI_length f j]; simp
  ·rfl
theorem srtI_length (f : Int → Int → Int) : ∀ (k : Nat) (l : List Int), (srtI f k l).length = l.length
 | 0, l => rfl
 | k + 1, l => by rw [srtI, bubI_length, srtI_length f k l]
theorem mem_getD {l : List Int} {j : Nat} (h : j < l.length) : l.getD j 0 ∈ l := by
 rw [List.getD, List.getElem?_eq_getElem h]
 exact List.getElem_mem h
theorem set_all {D : Int → Prop} {l : List Int} (h : ∀ x ∈ l, D x) {v : Int} (hv : D v) (i : Nat) : ∀ x ∈ l.set i v, D x := fun x hx => by
 rcases List.mem_or_eq_of_mem_set hx with hx | rfl
 ·exact h x hx
 ·exact hv
theorem bubI_all (f : Int → Int → Int) {D : Int → Prop} : ∀ (j : Nat) (l : List Int), (j < l.length ∨ j = 0) → (∀ x ∈ l, D x) → ∀ x ∈ bubI f j l, D x
 | 0, l, _, h => h
 | j + 1, l, hj, h => by
  have hj1 : j + 1 < l.length := by omega
  rw [bubI]
  split
  ·exact bubI_all f j _ (.inl (by simp; omega)) (set_all (set_all h (h _ (mem_getD (by omega))) _) (h _ (mem_getD hj1)) _)
  ·exact h
theorem srtI_all (f : Int → Int → Int) {D : Int → Prop} : ∀ (k : Nat) (l : List Int), (k ≤ l.length ∨ k = 1) → (∀ x ∈ l, D x) → ∀ x ∈ srtI f k l, D x
 | 0, l, _, h => h
 | k + 1, l, hk, h => by
  rw [srtI]
  exact bubI_all f k _ (by rw [srtI_length]; omega) (srtI_all f k l (by omega) h)
end Go.Proofs.YtgcigdahjabimaaGreatDoor
namespace Go.Proofs.YtgcigdahjabimaaGreatDoor
open Go.RowKit

structure Turn (T : List Nat) (w w' : World) : Prop where
 os : w'.os = w.os
 tape : w'.tape = w.tape
 output : w'.output = w.output
 size : w.heap.size ≤ w'.heap.size
 block : ∀ k, k < w.heap.size → k ∉ T → w'.heap[k]? = w.heap[k]?
abbrev blkOf (v : Value) : List Nat := v.ownBlock.toList
section
variable {T T' : List Nat} {w w' w1 : World} {B : Nat}
theorem Turn.of_below (h : Below B w w') (hT : ∀ k, k < w.heap.size → B ≤ k → k ∈ T) : Turn T w w' :=
 ⟨h.os, h.tape, h.output, h.size, fun k hk hn => h.block k (Nat.lt_of_not_le fun hB => hn (hT k hk hB))⟩
theorem Turn.of_keeps (h : Keeps w w') : Turn T w w' := .of_below h fun _ h1 h2 => absurd h1 (by omega)
theorem Turn.refl (w : World) : Turn T w w := ⟨rfl, rfl, rfl, Nat.le_refl _, fun _ _ _ => rfl⟩
theorem Turn.below (h : Turn T w w') (hT : ∀ k ∈ T, B ≤ k) (hB : B ≤ w.heap.size) : Below B w w' :=
 ⟨h.os, h.tape, h.output, h.size, fun k hk => h.block k (by omega) fun hm => by have := hT k hm; omega⟩
theorem Turn.keeps (h : Turn T w w') (hT : ∀ k ∈ T, w.heap.size ≤ k) : Keeps w w' := h.below hT (Nat.le_refl _)
theorem Turn.trans (h : Turn T w w1) (h1 : Turn T' w1 w') (hT : ∀ k ∈ T', k < w.heap.size → k ∈ T) : Turn T w w' :=
 ⟨h1.os.trans h.os, h1.tape.trans h.tape, h1.output.trans h.output, Nat.le_trans h.size h1.size, fun k hk hn =>
  (h1.block k (Nat.lt_of_lt_of_le hk h.size) fun hm => hn (hT k hm hk)).trans (h.block k hk hn)⟩
theorem Turn.mono (h : Turn T w w') (hT : ∀ k ∈ T, k ∈ T') : Turn T' w w' :=
 ⟨h.os, h.tape, h.output, h.size, fun k hk hn => h.block k hk fun hm => hn (hT k hm)⟩
theorem Turn.set (h : Turn T w w') {p : Addr} (hp : p.block ∈ T) (u : Value) : Turn T w (w'.setCell p u) :=
 ⟨h.os, h.tape, h.output, by simpa [World.setCell] using h.size, fun k hk hn =>
  (Below.heap_setCell w' p u k (fun e => hn (e ▸ hp))).trans (h.block k hk hn)⟩
theorem Turn.alloc (h : Turn T w w') (o : Obj) : Turn T w (w'.alloc o) :=
 h.trans (T' := []) (Turn.of_keeps (bl.alloc (Nat.le_refl _) _)) (by simp)
theorem Turn.drew (h : Turn T w w') : Turn T w w'.drew := ⟨h.os, h.tape, h.output, h.size, h.block⟩
theorem Turn.drewN (h : Turn T w w') (n : Nat) : Turn T w (w'.drewN n) := ⟨h.os, h.tape, h.output, h.size, h.block⟩
theorem Turn.of_grown {v : Value} (h : w.grownBy w' v.ownBlock) : Turn (blkOf v) w w' :=
 ⟨h.os, h.tape, h.output, h.size, fun k hk hn => h.block k hk fun e => hn (by rw [blkOf, ← e]; simp)⟩
theorem Own.turn {b : Nat} {t : TypeId} {vs : List Value} (h : Own w b t vs) (ht : Turn T w w') (hb : b ∉ T) : Own w' b t vs := (ht.block b h.lt hb).trans h
section
variable {base : Nat} {e : TypeId} {size : Nat} {v : Value} {n : Nat} {xs : List Value}
theorem _root_.Go.World.ownsRow.turn (h : w.ownsRow base e size v n xs) (ht : Turn T w w') (hv : ∀ k ∈ blkOf v, k ∉ T) : w'.ownsRow base e size v n xs := by
 obtain ⟨hl, ⟨rfl, rfl⟩ | ⟨g, cap, cur, rfl, hb, hg, hr⟩⟩ := h
 ·exact ⟨hl, .inl ⟨rfl, rfl⟩⟩
 ·have hlt : g < w.heap.size := (Array.getElem?_eq_some_iff.1 hg).1
  exact ⟨hl, .inr ⟨g, cap, cur, rfl, hb, (ht.block g hlt (hv g (by simp [blkOf, Value.ownBlock]))).trans hg, hr⟩⟩
theorem _root_.Go.World.ownsRow.keeps (h : w.ownsRow base e size v n xs) (hk : Keeps w w') : w'.ownsRow base e size v n xs := h.turn (Turn.of_keeps (T := []) hk) (by simp)
theorem _root_.Go.World.ownsRow.down {base' : Nat} (h : w.ownsRow base e size v n xs) (hb : base' ≤ base) : w.ownsRow base' e size v n xs := by
 obtain ⟨hl, h | ⟨g, cap, cur, rfl, hb', hr⟩⟩ := h
 ·exact ⟨hl, .inl h⟩
 ·exact ⟨hl, .inr ⟨g, cap, cur, rfl, Nat.le_trans hb hb', hr⟩⟩
theorem _root_.Go.World.ownsRow.sl (h : w.ownsRow base e size v n xs) : ∃ A c, v = .slice A n c ∧ n ≤ c ∧ c ≤ maxLen ∧ (A = none → c = 0) := by
 obtain ⟨hl, ⟨rfl, rfl⟩ | ⟨g, cap, cur, rfl, hb, hg, h1, h2, hr⟩⟩ := h
 ·exact ⟨none, 0, rfl, Nat.le_refl _, by simp [maxLen], fun _ => rfl⟩
 ·exact ⟨_, cap, rfl, h1, h2, fun e => by cases e⟩
theorem _root_.Go.World.ownsRow.lo (h : w.ownsRow base e size v n xs) : ∀ k ∈ blkOf v, base ≤ k ∧ k < w.heap.size := fun k hk => by
 simp only [blkOf, Option.mem_toList] at hk
 exact h.lt k hk
end
end
def at' (xs : List Value) (j : Nat) : Value := xs.getD j undef
abbrev Cells (w : World) (A : Option Addr) (xs : List Value) : Prop := Row w A xs.length (at' xs)
theorem at'_get {xs : List Value} {j : Nat} {v : Value} (h : xs[j]? = some v) : at' xs j = v := by simp [at', h]
theorem Cells.get {w : World} {A : Option Addr} {xs : List Value} (h : Cells w A xs) {j : Nat} {v : Value} (hj : xs[j]? = some v) : ∃ b o, A = some ⟨b, o, none⟩ ∧ b < w.heap.size ∧ w.cell? ⟨b, o + j, none⟩ = some v := by
 have hlt := (List.getElem?_eq_some_iff.1 hj).1
 obtain ⟨b, o, e, hb, hc⟩ := h (by omega)
 exact ⟨b, o, e, hb, by rw [hc j hlt, at'_get hj]⟩
theorem _root_.Go.World.ownsRow.cells' {w : World} {base : Nat} {e : TypeId} {size : Nat} {A : Option Addr} {n c : Nat} {xs : List Value} (h : w.ownsRow base e size (.slice A n c) n xs) : Cells w A xs := fun hp => by
 obtain ⟨hl, ⟨h1, rfl⟩ | ⟨g, cap, cur, h1, hb, hg, h2, h3, h4, h5⟩⟩ := h
 ·omega
 ·cases h1
  refine ⟨g, 0, rfl, (Array.getElem?_eq_some_iff.1 hg).1, fun j hj => ?_⟩
  rw [cell_of_row w g (0 + j) cur _ _ hg, Nat.zero_add, at', ← h5]
  have hj2 : j < n * size := by omega
  have hj3 : j < cur.size := by rw [← h5] at hj; simp at hj; omega
  simp [List.getD, hj2, hj3]
end Go.Proofs.YtgcigdahjabimaaGreatDoor
namespace Go.Proofs.YtgcigdahjabimaaGreatDoor
open Go.RowKit Go.Shelf

variable {F : Fence} {n : Nat} {P : Program}

def SeqIdx (F : Fence) (n : Nat) (P : Program) (g : Nat) (lb : Array Value) (encs : Nat → Array Value) (Kp : World → World → Prop) (N : Nat) (w : World) : Prop :=
 ∀ (l : Nat) (J Jx : Nat → World → Prop) (W : World), Below w.heap.size w W → AbidesFrom W.heap.size J → AbidesFrom W.heap.size Jx →
  (∀ k W1, J k W1 → k < N → YieldAt F (n - 1) P l (encs k) W1 fun e W' =>
   (e = .returned (.bool true) ∧ J (k + 1) W' ∧ Kp W1 W') ∨ (e = .returned (.bool false) ∧ Jx (k + 1) W')) →
  J 0 W →
  CallsIn F n P g (#[.func (.yield l) #[] #[]] ++ lb) W fun e W' => (∃ v, e = .returned v) ∧ (J N W' ∨ ∃ k, k ≤ N ∧ Jx k W')

def idxPost (B : Nat) (Kp : World → World → Prop) (I : Nat → World → Prop) (Ix : Code → Nat → World → Prop) (k : Nat) (W : World) : Exit → Act → World → Prop
 | .normal, _, W' => KeepsFrom B W W' ∧ Kp W W' ∧ I (k + 1) W'
 | .ret, _, W' => KeepsFrom B W W' ∧ Ix .ret (k + 1) W'
 | .exit id, _, W' => KeepsFrom B W W' ∧ Ix (.exit id) (k + 1) W'
 | .goto t, _, W' => KeepsFrom B W W' ∧ Ix (.goto t) (k + 1) W'
 | .panic _, _, _ => False
 | .outgrown, _, _ => False

theorem wpIn_range_idx {g : Operand} {ps : Array Tmp} {assign body : Code} {Q : Exit → Act → World → Prop} {a : Act} {w : World}
 (hro : F.round = none) (h1 : 1 ≤ n) {gf : Nat} {lb : Array Value} (hg : a.eval g = .func (.func gf) #[] lb) (hFg : F.fn gf) (eg : ∀ args w, (callFunc gf args).run P w = .ok (.enter gf args) w)
 {encs : Nat → Array Value} {Kp : World → World → Prop} {N : Nat} {w0 : World} (hseq : SeqIdx F (n - 1) P gf lb encs Kp N w0)
 (hKt : ∀ {A B C : World}, Kp A B → Kp B C → Kp A C) (hKb : ∀ (W : World) (l : Nat) (o o' : Obj), w.heap.size ≤ l → W.heap[l]? = some o → o.isCells = false → o.isWalk = false → Kp W (W.putObj l o')) (hb0 : Below w0.heap.size w0 w) (hps : ∀ x, (encs x).size = ps.size)
 (I : Nat → World → Prop) (Ix : Code → Nat → World → Prop) (hI : OwnFrom w.heap.size I) (hIx : ∀ c, OwnFrom w.heap.size (Ix c)) (h0 : I 0 w) (a₁ : Nat → Act)
 (hassign : ∀ (l : Nat) (x : Nat) (W : World) (K : Act → World → Prop), K (a₁ x) W →
  assign.wpIn (F.inRound l) (n - 1 - 1) P (Exit.then K (fun _ _ _ => False)) { tmps := (ps.zip (encs x)).foldl (fun t (p, v) => t.setIfInBounds p v) a.tmps, defers := [] } W)
 (hbody : ∀ (l : Nat) (k : Nat) (W : World), I k W → k < N → body.wpIn (F.inRound l) (n - 1 - 1) P (idxPost w.heap.size Kp I Ix k W) (a₁ k) W)
 (hdone : ∀ (D : Nat) (W : World), w.heap.size ≤ D → I N W → W.heap[D]? = some (.deferred (some [])) → Q .normal { a with defers := { target := .collected D, args := #[] } :: a.defers } W)
 (hstop : ∀ (D : Nat) (c : Code) (k : Nat) (W : World), w.heap.size ≤ D → k ≤ N → Ix c k W → W.heap[D]? = some (.deferred (some [])) → c.wpIn F n P Q { a with defers := { target := .collected D, args := #[] } :: a.defers } W) :
 (Code.rangeFunc g ps assign body).wpIn F n P Q a w := by
 refine wpIn_rangeFunc ?_
 intro fn hfn
 rw [hro]
 -- the loop's record, and the world in which the iterator is called
 let rec_ : LoopState → Option Code → Loop := fun st pe => { state := st, pending := pe, fn, tmps := a.tmps, params := ps, assign, body, defers := w.heap.size }
 obtain ⟨rec, hrec⟩ : ∃ rec, rec = rec_ := ⟨_, rfl⟩
 obtain ⟨W1, hW1⟩ : ∃ W1, (w.alloc (.deferred (some []))).alloc (.loop (rec .ready none)) = W1 := ⟨_, rfl⟩
 have hsz : W1.heap.size = w.heap.size + 2 := by rw [← hW1]; simp
 have hL1 : W1.heap[w.heap.size + 1]? = some (.loop (rec .ready none)) := by
  rw [← hW1]; have := World.alloc_heap_new (w.alloc (.deferred (some []))) (.loop (rec .ready none)); rwa [World.size_alloc] at this
 have hK1 : W1.heap[w.heap.size]? = some (.deferred (some [])) := by
  rw [← hW1]; exact (Below.heap_alloc _ _ _ (by simp)).trans (World.alloc_heap_new w _)
 have hI1 : I 0 W1 := by rw [← hW1]; exact hI.alloc _ (hI.alloc _ h0)
 have hb1 : Below w0.heap.size w0 W1 := by
  rw [← hW1]; exact hb0.trans ((((Below.refl _ w).alloc (Nat.le_refl _) _).alloc (by simp) _).mono hb0.size)
 refine ⟨w.heap.size + 1, [{ target := .collected w.heap.size, args := #[] }], W1, { target := .fn (.func gf) lb, args := #[.func (.yield (w.heap.size + 1)) #[] #[]] }, W1, gf,
  #[.func (.yield (w.heap.size + 1)) #[] #[]] ++ lb, W1, ?enter, ?target, ?leads, ?invoke, fun _ => h1, ?call⟩
 case enter => rw [← hW1, hrec]; exact run_enterLoop_outer _ _ _ _ _
 case target =>
  simp only [resolve, hg]
  simp [go_sem]
 case leads => intro f' hf'; simp [Target.leads] at hf'; subst hf'; exact hFg
 case invoke => simp [invoke, go_sem, eg]
 case call =>
  have wide : ∀ {A : World} {row : Option Nat}, (∀ r, row = some r → W1.heap.size ≤ r ∧ ∃ o : Obj, A.heap[r]? = some o ∧ o.isWalk = true) → ∀ r, row = some r → w.heap.size ≤ r ∧ ∃ o : Obj, A.heap[r]? = some o ∧ o.isCells = false :=
   fun hr r e => by
    obtain ⟨hB, o, ho, hw⟩ := hr r e
    exact ⟨by omega, o, ho, Obj.not_cells_of_walk hw⟩
  refine (hseq (w.heap.size + 1)
   (fun k W => I k W ∧ W.heap[w.heap.size + 1]? = some (.loop (rec .ready none)) ∧ W.heap[w.heap.size]? = some (.deferred (some [])))
   (fun k W => ∃ c, Ix c k W ∧ W.heap[w.heap.size + 1]? = some (.loop (rec .done (some c))) ∧ W.heap[w.heap.size]? = some (.deferred (some [])))
   W1 hb1 ?ab1 ?ab2 ?rounds ⟨hI1, hL1, hK1⟩).mono ?after
  case ab1 =>
   rintro s A B row ⟨hs, hl, hd⟩ hg' hr
   exact ⟨hI s A B row hs hg' (wide hr), (grownBy_keeps hg' (fun r e => (hr r e).2) hl rfl).trans hl, (grownBy_keeps hg' (fun r e => (hr r e).2) hd rfl).trans hd⟩
  case ab2 =>
   rintro s A B row ⟨c, hs, hl, hd⟩ hg' hr
   exact ⟨c, hIx c s A B row hs hg' (wide hr), (grownBy_keeps hg' (fun r e => (hr r e).2) hl rfl).trans hl, (grownBy_keeps hg' (fun r e => (hr r e).2) hd rfl).trans hd⟩
  case rounds =>
   rintro k W ⟨hi, hl, hd⟩ hlt
   have hsW : w.heap.size + 1 < W.heap.size := (Array.getElem?_eq_some_iff.1 hl).1
   have hy := run_yield (P := P) (args := encs k) hl (by rw [hrec]; exact hps k)
   rw [hrec] at hy
   refine ⟨fn, _, assign, body, hy, roundIn_of_wpIn hfn (hassign _ k W _ ⟨_, run_beginRound hl (by rw [hrec]), ?_⟩)⟩
   have hl2 : (W.putObj (w.heap.size + 1) (.loop { rec .ready none with state := .busy })).heap[w.heap.size + 1]? = some (.loop { rec .ready none with state := .busy }) := World.putObj_heap_same hsW
   have hd2 : (W.putObj (w.heap.size + 1) (.loop { rec .ready none with state := .busy })).heap[w.heap.size]? = some (.deferred (some [])) := (World.putObj_heap_other (by omega)).trans hd
   have hkp : Kp W (W.putObj (w.heap.size + 1) (.loop { rec .ready none with state := .busy })) := hKb _ _ _ _ (by omega) hl rfl rfl
   refine wpIn_mono (hbody _ k _ (hI.putObj _ hi (by omega) hl rfl) hlt) ?_
   -- behind the body: the record is put back
   have back : ∀ (jump : Option Code) (W3 : World), KeepsFrom w.heap.size (W.putObj (w.heap.size + 1) (.loop { rec .ready none with state := .busy })) W3 →
    (Instr.endRound (w.heap.size + 1) jump).run P W3 = .ok (.bool jump.isNone) (W3.putObj (w.heap.size + 1) (.loop (rec (if jump.isNone then .ready else .done) jump))) ∧
    W3.heap[w.heap.size + 1]? = some (.loop { rec .ready none with state := .busy }) ∧
    (W3.putObj (w.heap.size + 1) (.loop (rec (if jump.isNone then .ready else .done) jump))).heap[w.heap.size + 1]? = some (.loop (rec (if jump.isNone then .ready else .done) jump)) ∧
    (W3.putObj (w.heap.size + 1) (.loop (rec (if jump.isNone then .ready else .done) jump))).heap[w.heap.size]? = some (.deferred (some [])) := fun jump W3 hk3 => by
    have hl3 := hk3.same _ _ (by omega) hl2 rfl
    have hrun := run_endRound (P := P) jump hl3
    rw [hrec] at hrun ⊢
    exact ⟨hrun, by rw [hrec] at hl3; exact hl3, World.putObj_heap_same (Array.getElem?_eq_some_iff.1 hl3).1, (World.putObj_heap_other (by omega)).trans (hk3.same _ _ (Nat.le_refl _) hd2 rfl)⟩
   intro e a3 W3 hp
   cases e with
   | normal =>
    obtain ⟨hk3, hkp3, hi3⟩ := hp
    obtain ⟨hr, hl3, hl4, hd4⟩ := back none W3 hk3
    exact ⟨_, _, hr, .inl ⟨rfl, ⟨hI.putObj _ hi3 (by omega) hl3 rfl, hl4, hd4⟩, hKt (hKt hkp hkp3) (hKb _ _ _ _ (by omega) hl3 rfl rfl)⟩⟩
   | ret =>
    obtain ⟨hr, hl3, hl4, hd4⟩ := back (some .ret) W3 hp.1
    exact ⟨_, _, hr, .inr ⟨rfl, .ret, (hIx _).putObj _ hp.2 (by omega) hl3 rfl, hl4, hd4⟩⟩
   | exit id =>
    obtain ⟨hr, hl3, hl4, hd4⟩ := back (some (.exit id)) W3 hp.1
    exact ⟨_, _, hr, .inr ⟨rfl, .exit id, (hIx _).putObj _ hp.2 (by omega) hl3 rfl, hl4, hd4⟩⟩
   | goto t =>
    obtain ⟨hr, hl3, hl4, hd4⟩ := back (some (.goto t)) W3 hp.1
    exact ⟨_, _, hr, .inr ⟨rfl, .goto t, (hIx _).putObj _ hp.2 (by omega) hl3 rfl, hl4, hd4⟩⟩
   | panic ch => exact hp.elim
   | outgrown => exact hp.elim
  case after =>
   rintro e W2 ⟨⟨v, rfl⟩, (⟨hi, hl, hd⟩ | ⟨k, hkN, c, hi, hl, hd⟩)⟩
   ·exact ⟨none, _, by have := run_endLoop (P := P) hl (by rw [hrec]; simp [rec_]); rw [hrec] at this; exact this, hdone _ _ (Nat.le_refl _) (hI.putObj _ hi (by omega) hl rfl) ((World.putObj_heap_other (by omega)).trans hd)⟩
   ·exact ⟨some c, _, by have := run_endLoop (P := P) hl (by rw [hrec]; simp [rec_]); rw [hrec] at this; exact this, hstop _ c k _ (Nat.le_refl _) hkN ((hIx c).putObj _ hi (by omega) hl rfl) ((World.putObj_heap_other (by omega)).trans hd)⟩

theorem Own.nc {A B : World} {row : Option Nat} {b : Nat} {t : TypeId} {vs : List Value} (h : Own A b t vs) (hg : A.grownBy B row) (hr : ∀ r, row = some r → ∃ o : Obj, A.heap[r]? = some o ∧ o.isCells = false) : Own B b t vs := by
 unfold Own at h ⊢
 rw [hg.block b (Array.getElem?_eq_some_iff.1 h).1 (fun e => by
  obtain ⟨o, ho, hc⟩ := hr b e.symm
  rw [h] at ho; cases ho; cases hc)]
 exact h
theorem Row.nc {A B : World} {row : Option Nat} {a : Option Addr} {m : Nat} {f : Nat → Value} (h : Row A a m f) (hg : A.grownBy B row) (hr : ∀ r, row = some r → ∃ o : Obj, A.heap[r]? = some o ∧ o.isCells = false) : Row B a m f := fun hn => by
 obtain ⟨b, o, e, hlt, hc⟩ := h hn
 refine ⟨b, o, e, Nat.lt_of_lt_of_le hlt hg.size, fun j hj => ?_⟩
 refine (World.cell?_of_block (hg.block b hlt fun e' => ?_)).trans (hc j hj)
 obtain ⟨ob, ho, hcl⟩ := hr b e'.symm
 have h0 := hc j hj
 unfold World.cell? at h0
 rw [ho] at h0
 cases ob <;> simp [Obj.isCells] at hcl h0
theorem U32.nc {A B : World} {row : Option Nat} {v : Value} {xs : List Nat} (h : U32 A v xs) (hg : A.grownBy B row) (hr : ∀ r, row = some r → ∃ o : Obj, A.heap[r]? = some o ∧ o.isCells = false) : U32 B v xs := by
 obtain ⟨a, c, rfl, h1, h2, h0, h3⟩ := h
 exact ⟨a, c, rfl, h1, h2, h0, h3.nc hg hr⟩
end Go.Proofs.YtgcigdahjabimaaGreatDoor
namespace Go.Proofs.YtgcigdahjabimaaGreatDoor
open Go.RowKit

theorem ret_slice {A : Option Addr} {n m c : Nat} (h : n = m) : Ending.returned (.slice A n c) = .returned (.slice A m c) := by rw [h]

set_option maxHeartbeats 400000 in
theorem trim_any (A : Option Addr) (c : Nat) (xs : List Nat) (w : World) (h : Row w A xs.length (u32 xs)) (hc : xs.length ≤ c) (hm : c ≤ maxLen) :
 Calls Tryz.prog 134 #[.slice A xs.length c] w fun e w' => e = .returned (.slice A (trimL xs).length c) ∧ w = w' := by
 unfold maxLen at hm
 go_enter Tryz.func134, Tryz.ntmps134
 go_wp2
 go_loop [0] (fun g => ∃ k : Nat, k ≤ xs.length ∧ trimL (xs.take k) = trimL xs ∧ g = .slice A k c) (fun g => lenOf g)
 case atStart => exact ⟨_, Nat.le_refl _, by simp, rfl⟩
 case round =>
  obtain ⟨k, hk, ht, rfl⟩ := hrel
  have HT := Lib.hid ht
  clear ht
  rcases Nat.eq_zero_or_pos k with rfl | hpos
  ·go_wp2
   go_ret
   exact ⟨by rw [← HT.out]; simp [trimL], rfl⟩
  ·obtain ⟨j, rfl⟩ : ∃ j, k = j + 1 := ⟨k - 1, by omega⟩
   obtain ⟨b, o, rfl, hb, hcell⟩ := h (by omega)
   have hx : w.cell? ⟨b, o + j, none⟩ = some (.int .u32 (ix xs j : Nat)) := hcell j (by omega)
   have hts := take_snoc xs j (by omega)
   clear hcell
   by_cases hz : ix xs j = 0
   ·have HZ := Lib.hid hz
    rw [hz] at hx
    clear hz
    have HS := Lib.hid hts
    clear hts
    go_wp2
    go_round
    case rel => exact ⟨j, by omega, by rw [← HT.out, HS.out, HZ.out, trimL_snoc_zero], rfl⟩
    case measure => simp [lenOf]
   ·have hb2 : (((ix xs j : Nat) : Int) == 0) = false := by simpa using hz
    have HS := Lib.hid hts
    clear hts
    go_wp2
    go_ret
    exact ⟨ret_slice (by rw [← HT.out, HS.out, trimL_snoc _ _ hz]; simp; omega), rfl⟩

theorem at_any (A : Option Addr) (c : Nat) (xs : List Nat) (i : Nat) (w : World) (h : Row w A xs.length (u32 xs)) (hm : xs.length ≤ 1000000000) (hi : i ≤ 1000000000) :
 Calls Tryz.prog 196 #[.slice A xs.length c, .int .i64 (i : Nat)] w fun e w' => e = .returned (.int .u32 (ix xs i : Nat)) ∧ w = w' := by
 by_cases hlt : i < xs.length
 ·obtain ⟨b, o, rfl, hb, hcell⟩ := h (by omega)
  have hx : w.cell? ⟨b, o + i, none⟩ = some (.int .u32 (ix xs i : Nat)) := hcell i hlt
  go_enter Tryz.func196, Tryz.ntmps196
  go_wp2
  go_ret
  exact ⟨rfl, rfl⟩
 ·have HZ := Lib.hid (ix_past xs i (by omega))
  go_enter Tryz.func196, Tryz.ntmps196
  go_wp2
  go_ret
  exact ⟨by rw [HZ.out]; rfl, rfl⟩

theorem trim_n (A : Option Addr) (n c : Nat) (xs : List Nat) (w : World) (e : xs.length = n) (h : Row w A n (u32 xs)) (hc : n ≤ c) (hm : c ≤ maxLen) :
 Calls Tryz.prog 134 #[.slice A n c] w fun e w' => e = .returned (.slice A (trimL xs).length c) ∧ w = w' := by
 subst e
 exact trim_any A c xs w h hc hm
theorem at_n (A : Option Addr) (n c : Nat) (xs : List Nat) (i : Nat) (w : World) (e : xs.length = n) (h : Row w A n (u32 xs)) (hm : n ≤ 1000000000) (hi : i ≤ 1000000000) :
 Calls Tryz.prog 196 #[.slice A n c, .int .i64 (i : Nat)] w fun e w' => e = .returned (.int .u32 (ix xs i : Nat)) ∧ w = w' := by
 subst e
 exact at_any A c xs i w h hm hi
end Go.Proofs.YtgcigdahjabimaaGreatDoor
