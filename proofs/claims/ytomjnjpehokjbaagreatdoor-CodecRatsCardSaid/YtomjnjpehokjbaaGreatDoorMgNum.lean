/- Numbers in groups of nine decimal digits: plain arithmetic, no program in sight. Slices in memory: what a slice value reads as; blocks of the call's own. No program in sight. More on memory: rows of the call's own. No program in sight. Blocks that a call may turn; rows of its own that grow. No program in sight. Decimal texts of naturals, digit by digit and group by group. No program in sight. Counts: their canonical texts. No program in sight. Decimal texts that are read: their value, group by group. No program in sight. A range over an iterator whose k-th round is known: one law for the caller, by the number of the round. No program in sight. -/
import Derived.WalkKit
import Derived.Deep.AppendLies
import Derived.Deep.Draws
import Derived.Lib.Hide
import Derived.Laws.AppendOwnNone
import Derived.Maps.AppendAt
import Derived.Lib.ItoaNum
import Derived.Lib.AtoiAll
import Derived.Lib.Atoi
import Derived.RangeFuncNested
import Derived.RangeFuncBound
import Derived.RangeFuncCalls
import Derived.RangeFuncLeaves
import Derived.Shelf.Abstract
import Derived.Shelf.RegionOpen
import Derived.OwnWalkIn
import Derived.TacticsInMore
import Derived.LoopNIn
import Derived.LoopIn
namespace Go.Proofs.YtomjnjpehokjbaaGreatDoor

/-- the number of a list of groups, the least one first -/
def val : List Nat → Nat
  | [] => 0
  | x :: r => x + 1000000000 * val r
/-- the group with an index, 0 behind the end -/
def ix (xs : List Nat) (j : Nat) : Nat := xs.getD j 0
def AllB (xs : List Nat) : Prop := ∀ x ∈ xs, x < 1000000000
/-- a list without zeros at the end -/
def trimL : List Nat → List Nat
  | [] => []
  | x :: r => match trimL r with
    | [] => if x = 0 then [] else [x]
    | y :: s => x :: y :: s
/-- the groups of a number -/
def dig (n : Nat) : List Nat := if _h : n = 0 then [] else n % 1000000000 :: dig (n / 1000000000)
termination_by n
decreasing_by omega

theorem ix_nil (j : Nat) : ix [] j = 0 := by simp [ix]
theorem ix_zero (x : Nat) (r : List Nat) : ix (x :: r) 0 = x := rfl
theorem ix_succ (x : Nat) (r : List Nat) (j : Nat) : ix (x :: r) (j + 1) = ix r j := by simp [ix]
theorem ix_get (xs : List Nat) (j : Nat) (h : j < xs.length) : ix xs j = xs[j] := by simp [ix, h]
theorem ix_past (xs : List Nat) (j : Nat) (h : xs.length ≤ j) : ix xs j = 0 := by simp [ix, h]
theorem ix_set (xs : List Nat) (k v j : Nat) (h : k < xs.length) : ix (xs.set k v) j = if j = k then v else ix xs j := by
  unfold ix; simp only [List.getD_eq_getElem?_getD, List.getElem?_set]
  by_cases e : k = j
  · subst e; simp [h]
  · rw [if_neg e, if_neg (Ne.symm e)]
theorem ix_append_left (xs ys : List Nat) (j : Nat) (h : j < xs.length) : ix (xs ++ ys) j = ix xs j := by
  simp [ix, List.getElem?_append_left h]
theorem ix_append_at (xs : List Nat) (y : Nat) : ix (xs ++ [y]) xs.length = y := by simp [ix]
theorem ix_take (xs : List Nat) (k j : Nat) (h : j < k) : ix (xs.take k) j = ix xs j := by
  simp [ix, h]
theorem ix_drop (xs : List Nat) (k j : Nat) : ix (xs.drop k) j = ix xs (k + j) := by simp [ix]
theorem take_snoc (xs : List Nat) (k : Nat) (h : k < xs.length) : xs.take (k + 1) = xs.take k ++ [ix xs k] := by
  rw [List.take_succ_eq_append_getElem h, ix_get xs k h]
theorem drop_cons (xs : List Nat) (k : Nat) (h : k < xs.length) : xs.drop k = ix xs k :: xs.drop (k + 1) := by
  rw [List.drop_eq_getElem_cons h, ix_get xs k h]
theorem ext_ix (xs ys : List Nat) (hl : xs.length = ys.length) (h : ∀ j, j < xs.length → ix xs j = ix ys j) : xs = ys := by
  apply List.ext_getElem hl
  intro i h1 h2
  have := h i h1
  rwa [ix_get _ _ h1, ix_get _ _ h2] at this

theorem AllB.nil : AllB [] := by intro x h; cases h
theorem AllB.cons {x : Nat} {r : List Nat} (h : x < 1000000000) (hr : AllB r) : AllB (x :: r) := by
  intro y hy; cases hy with
  | head => exact h
  | tail _ hy => exact hr y hy
theorem AllB.head {x : Nat} {r : List Nat} (h : AllB (x :: r)) : x < 1000000000 := h x (List.mem_cons_self ..)
theorem AllB.tail {x : Nat} {r : List Nat} (h : AllB (x :: r)) : AllB r := fun y hy => h y (List.mem_cons_of_mem _ hy)
theorem AllB.ix {xs : List Nat} (h : AllB xs) (j : Nat) : ix xs j < 1000000000 := by
  rcases Nat.lt_or_ge j xs.length with hj | hj
  · rw [ix_get xs j hj]; exact h _ (List.getElem_mem hj)
  · rw [ix_past xs j hj]; omega
theorem AllB.of_ix {xs : List Nat} (h : ∀ j, j < xs.length → Go.Proofs.YtomjnjpehokjbaaGreatDoor.ix xs j < 1000000000) : AllB xs := by
  intro x hx
  obtain ⟨j, hj, rfl⟩ := List.getElem_of_mem hx
  rw [← ix_get xs j hj]; exact h j hj
theorem AllB.append {xs ys : List Nat} (h : AllB xs) (h' : AllB ys) : AllB (xs ++ ys) := by
  intro x hx; rcases List.mem_append.1 hx with k | k
  · exact h x k
  · exact h' x k
theorem AllB.take {xs : List Nat} (h : AllB xs) (k : Nat) : AllB (xs.take k) := fun x hx => h x (List.mem_of_mem_take hx)
theorem AllB.drop {xs : List Nat} (h : AllB xs) (k : Nat) : AllB (xs.drop k) := fun x hx => h x (List.mem_of_mem_drop hx)
theorem AllB.set {xs : List Nat} (h : AllB xs) (k v : Nat) (hv : v < 1000000000) : AllB (xs.set k v) := by
  intro x hx
  rcases List.mem_or_eq_of_mem_set hx with hx | rfl
  · exact h x hx
  · exact hv
theorem AllB.replicate (n : Nat) : AllB (List.replicate n 0) := by
  intro x hx; have := List.eq_of_mem_replicate hx; omega
theorem AllB.single {x : Nat} (h : x < 1000000000) : AllB [x] := AllB.cons h AllB.nil

theorem val_take_succ (xs : List Nat) (i : Nat) : val (xs.take (i + 1)) = val (xs.take i) + ix xs i * 1000000000 ^ i := by
  induction i generalizing xs with
  | zero => cases xs <;> simp [val, ix]
  | succ i ih =>
    cases xs with
    | nil => simp [val, ix]
    | cons x r =>
      simp only [List.take_succ_cons, val, ix_succ]
      rw [ih]
      grind
theorem val_set (xs : List Nat) (k v : Nat) (hk : k < xs.length) : val (xs.set k v) + ix xs k * 1000000000 ^ k = val xs + v * 1000000000 ^ k := by
  induction xs generalizing k with
  | nil => simp at hk
  | cons x r ih =>
    cases k with
    | zero => simp [val, ix]; omega
    | succ k =>
      have := ih k (by simpa using hk)
      simp only [List.set_cons_succ, val, ix_succ]
      grind
theorem val_append (xs ys : List Nat) : val (xs ++ ys) = val xs + 1000000000 ^ xs.length * val ys := by
  induction xs with
  | nil => simp [val]
  | cons x r ih => simp only [List.cons_append, val, ih, List.length_cons]; grind
theorem val_snoc (xs : List Nat) (y : Nat) : val (xs ++ [y]) = val xs + y * 1000000000 ^ xs.length := by
  rw [val_append]; simp [val]; grind
theorem val_replicate (n : Nat) : val (List.replicate n 0) = 0 := by
  induction n with
  | zero => rfl
  | succ n ih => simp [List.replicate_succ, val, ih]
theorem val_lt {xs : List Nat} (h : AllB xs) : val xs < 1000000000 ^ xs.length := by
  induction xs with
  | nil => simp [val]
  | cons x r ih =>
    have h1 := ih h.tail
    have h2 := h.head
    simp only [val, List.length_cons, Nat.pow_succ]
    omega
theorem val_take_le (xs : List Nat) (k : Nat) : val (xs.take k) ≤ val xs := by
  induction xs generalizing k with
  | nil => simp [val]
  | cons x r ih =>
    cases k with
    | zero => simp [val]
    | succ k => have := ih k; simp only [List.take_succ_cons, val]; omega
theorem val_drop (xs : List Nat) (k : Nat) (h : k < xs.length) : val (xs.drop k) = ix xs k + 1000000000 * val (xs.drop (k + 1)) := by
  rw [drop_cons xs k h]; rfl
theorem val_split (xs : List Nat) (k : Nat) (h : k ≤ xs.length) : val xs = val (xs.take k) + 1000000000 ^ k * val (xs.drop k) := by
  have := val_append (xs.take k) (xs.drop k)
  rw [List.take_append_drop] at this
  rw [this, List.length_take, Nat.min_eq_left h]

theorem dig_zero : dig 0 = [] := by unfold dig; simp
theorem dig_pos {n : Nat} (h : n ≠ 0) : dig n = n % 1000000000 :: dig (n / 1000000000) := by
  rw [dig]; simp [h]
theorem val_dig (n : Nat) : val (dig n) = n := by
  induction n using Nat.strongRecOn with
  | ind n ih =>
    by_cases h : n = 0
    · subst h; rw [dig_zero]; rfl
    · rw [dig_pos h, val, ih _ (by omega)]; omega
theorem AllB.dig (n : Nat) : AllB (dig n) := by
  induction n using Nat.strongRecOn with
  | ind n ih =>
    by_cases h : n = 0
    · subst h; rw [dig_zero]; exact AllB.nil
    · rw [dig_pos h]; exact AllB.cons (by omega) (ih _ (by omega))
theorem dig_eq_nil {n : Nat} : dig n = [] ↔ n = 0 := by
  constructor
  · intro h; have := val_dig n; rw [h] at this; exact this.symm
  · rintro rfl; exact dig_zero
theorem dig_length_pos {n : Nat} : 0 < (dig n).length ↔ n ≠ 0 := by
  rw [List.length_pos_iff]; exact not_congr dig_eq_nil
theorem dig_length_zero {n : Nat} : (dig n).length = 0 ↔ n = 0 := by
  rw [List.length_eq_zero_iff]; exact dig_eq_nil
theorem dig_inj {m n : Nat} (h : dig m = dig n) : m = n := by
  rw [← val_dig m, ← val_dig n, h]
theorem trimL_dig (n : Nat) : trimL (dig n) = dig n := by
  induction n using Nat.strongRecOn with
  | ind n ih =>
    by_cases h : n = 0
    · subst h; rw [dig_zero]; rfl
    · rw [dig_pos h, trimL, ih _ (by omega)]
      by_cases h2 : n / 1000000000 = 0
      · rw [h2, dig_zero]; simp only; rw [if_neg (by omega)]
      · rw [dig_pos h2]
theorem val_trimL (xs : List Nat) : val (trimL xs) = val xs := by
  induction xs with
  | nil => rfl
  | cons x r ih =>
    simp only [trimL]
    split
    · next h => rw [h] at ih; simp only [val] at ih ⊢; split <;> simp_all [val] <;> omega
    · next y s h => rw [h] at ih; simp only [val] at ih ⊢; omega
theorem trimL_eq {xs : List Nat} (h : AllB xs) : trimL xs = dig (val xs) := by
  induction xs with
  | nil => simp [trimL, val, dig_zero]
  | cons x r ih =>
    have h1 := ih h.tail
    have h2 := h.head
    simp only [trimL, h1, val]
    by_cases hr : val r = 0
    · rw [hr, dig_zero]
      by_cases hx : x = 0
      · subst hx; simp [dig_zero]
      · simp only [if_neg hx]
        rw [dig_pos (by omega), show (x + 1000000000 * 0) / 1000000000 = 0 by omega, dig_zero]
        congr 1; omega
    · rw [dig_pos (n := x + 1000000000 * val r) (by omega), show (x + 1000000000 * val r) / 1000000000 = val r by omega,
        show (x + 1000000000 * val r) % 1000000000 = x by omega]
      cases hd : dig (val r) with
      | nil => exact absurd (dig_eq_nil.1 hd) hr
      | cons y s => rfl
theorem trimL_snoc_zero (xs : List Nat) : trimL (xs ++ [0]) = trimL xs := by
  induction xs with
  | nil => rfl
  | cons x r ih => simp [trimL, ih]
theorem trimL_snoc (xs : List Nat) (d : Nat) (h : d ≠ 0) : trimL (xs ++ [d]) = xs ++ [d] := by
  induction xs with
  | nil => simp [trimL, h]
  | cons x r ih =>
    simp only [List.cons_append, trimL, ih]
    cases r <;> rfl
theorem trimL_length_le (xs : List Nat) : (trimL xs).length ≤ xs.length := by
  induction xs with
  | nil => simp [trimL]
  | cons x r ih =>
    simp only [trimL]
    split
    · split <;> simp
    · next y s h => rw [h] at ih; simpa using ih
theorem trimL_take (xs : List Nat) : trimL xs = xs.take (trimL xs).length := by
  induction xs with
  | nil => rfl
  | cons x r ih =>
    simp only [trimL]
    split
    · split <;> simp
    · next y s h => rw [h] at ih; simp only [List.length_cons, List.take_succ_cons] at ih ⊢; rw [← ih]
theorem trimL_of_last {xs : List Nat} (h : ∀ (_ : 0 < xs.length), ix xs (xs.length - 1) ≠ 0) : trimL xs = xs := by
  rcases List.eq_nil_or_concat xs with rfl | ⟨ys, y, rfl⟩
  · rfl
  · have := h (by simp)
    simp only [List.concat_eq_append] at *
    refine trimL_snoc ys y ?_
    simpa [ix] using this
theorem dig_last {n : Nat} (h : n ≠ 0) : ix (dig n) ((dig n).length - 1) ≠ 0 := by
  intro h0
  have hp := dig_length_pos.2 h
  have e : dig n = (dig n).take ((dig n).length - 1) ++ [0] := by
    have := take_snoc (dig n) ((dig n).length - 1) (by omega)
    rw [show (dig n).length - 1 + 1 = (dig n).length by omega, List.take_length, h0] at this
    exact this
  have t := trimL_dig n
  rw [e, trimL_snoc_zero] at t
  have l := trimL_length_le ((dig n).take ((dig n).length - 1))
  rw [t] at l
  simp at l
  omega
theorem dig_of {xs : List Nat} (h : AllB xs) (hl : ∀ (_ : 0 < xs.length), ix xs (xs.length - 1) ≠ 0) : dig (val xs) = xs := by
  rw [← trimL_eq h, trimL_of_last hl]
theorem dig_length_le {n k : Nat} (h : n < 1000000000 ^ k) : (dig n).length ≤ k := by
  induction k generalizing n with
  | zero => rw [show n = 0 by simpa using h, dig_zero]; simp
  | succ k ih =>
    by_cases h0 : n = 0
    · subst h0; rw [dig_zero]; simp
    · rw [dig_pos h0, List.length_cons]
      have := ih (n := n / 1000000000) (by rw [Nat.pow_succ] at h; omega)
      omega
theorem dig_lt (n : Nat) : n < 1000000000 ^ (dig n).length := by
  have := val_lt (AllB.dig n)
  rwa [val_dig] at this
theorem dig_length_mono {m n : Nat} (h : m ≤ n) : (dig m).length ≤ (dig n).length :=
  dig_length_le (Nat.lt_of_le_of_lt h (dig_lt n))
theorem dig_ge {n : Nat} (h : n ≠ 0) : 1000000000 ^ ((dig n).length - 1) ≤ n := by
  rcases Nat.lt_or_ge n (1000000000 ^ ((dig n).length - 1)) with hl | hl
  · have := dig_length_le hl
    have := dig_length_pos.2 h
    omega
  · exact hl
theorem dig_length_add (m n : Nat) : (dig (m + n)).length ≤ max (dig m).length (dig n).length + 1 := by
  apply dig_length_le
  have h1 := dig_lt m
  have h2 := dig_lt n
  have h3 : 1000000000 ^ (dig m).length ≤ 1000000000 ^ max (dig m).length (dig n).length := Nat.pow_le_pow_right (by omega) (by omega)
  have h4 : 1000000000 ^ (dig n).length ≤ 1000000000 ^ max (dig m).length (dig n).length := Nat.pow_le_pow_right (by omega) (by omega)
  rw [Nat.pow_succ]
  omega
theorem dig_length_mul (m n : Nat) : (dig (m * n)).length ≤ (dig m).length + (dig n).length := by
  apply dig_length_le
  rw [Nat.pow_add]
  have h1 := dig_lt m
  have h2 := dig_lt n
  exact Nat.mul_lt_mul_of_lt_of_lt h1 h2
theorem dig_small {n : Nat} (h : n ≠ 0) (h2 : n < 1000000000) : dig n = [n] := by
  rw [dig_pos h, show n / 1000000000 = 0 by omega, dig_zero, show n % 1000000000 = n by omega]

theorem take_set_self (xs : List Nat) (k v : Nat) : (xs.set k v).take k = xs.take k := by
  rw [List.take_set_of_le (Nat.le_refl _)]
theorem val_put (xs : List Nat) (k v : Nat) (h : k < xs.length) : val ((xs.set k v).take (k + 1)) = val (xs.take k) + v * 1000000000 ^ k := by
  rw [val_take_succ, take_set_self, ix_set xs k v k h, if_pos rfl]
theorem plus_step (xs ys out : List Nat) (k cc s c : Nat) (hk : k < out.length) (hv : val (out.take k) + cc * 1000000000 ^ k = val (xs.take k) + val (ys.take k))
    (e : s + c * 1000000000 = ix xs k + ix ys k + cc) :
    val ((out.set k s).take (k + 1)) + c * 1000000000 ^ (k + 1) = val (xs.take (k + 1)) + val (ys.take (k + 1)) := by
  rw [val_put out k s hk, val_take_succ xs, val_take_succ ys]
  have : (s + c * 1000000000) * 1000000000 ^ k = (ix xs k + ix ys k + cc) * 1000000000 ^ k := by rw [e]
  grind
theorem plus_done (xs ys out : List Nat) (N cc : Nat) (h : out.length = N) (h1 : xs.length + 1 ≤ N) (h2 : ys.length + 1 ≤ N) (hx : AllB xs) (hy : AllB ys)
    (hv : val (out.take N) + cc * 1000000000 ^ N = val (xs.take N) + val (ys.take N)) : val out = val xs + val ys := by
  rw [List.take_of_length_le (by omega), List.take_of_length_le (by omega), List.take_of_length_le (by omega)] at hv
  have a := val_lt hx
  have b := val_lt hy
  obtain ⟨M, rfl⟩ : ∃ M, N = M + 1 := ⟨N - 1, by omega⟩
  have a' : 1000000000 ^ xs.length ≤ 1000000000 ^ M := Nat.pow_le_pow_right (by omega) (by omega)
  have b' : 1000000000 ^ ys.length ≤ 1000000000 ^ M := Nat.pow_le_pow_right (by omega) (by omega)
  rw [Nat.pow_succ] at hv
  cases cc with
  | zero => omega
  | succ c =>
    have : (c + 1) * (1000000000 ^ M * 1000000000) = c * (1000000000 ^ M * 1000000000) + 1000000000 ^ M * 1000000000 := by grind
    have : 0 ≤ c * (1000000000 ^ M * 1000000000) := Nat.zero_le _
    omega
theorem minus_step (xs ys out : List Nat) (k cc s c : Nat) (hk : k < out.length) (hv : val (out.take k) + val (ys.take k) = val (xs.take k) + cc * 1000000000 ^ k)
    (e : s + ix ys k + cc = ix xs k + c * 1000000000) :
    val ((out.set k s).take (k + 1)) + val (ys.take (k + 1)) = val (xs.take (k + 1)) + c * 1000000000 ^ (k + 1) := by
  rw [val_put out k s hk, val_take_succ xs, val_take_succ ys]
  have : (s + ix ys k + cc) * 1000000000 ^ k = (ix xs k + c * 1000000000) * 1000000000 ^ k := by rw [e]
  grind
theorem minus_done (xs ys out : List Nat) (cc : Nat) (h : out.length = xs.length) (ho : AllB out) (hx : AllB xs) (hc : cc ≤ 1) (hl : ys.length ≤ xs.length) (hle : val ys ≤ val xs)
    (hv : val (out.take xs.length) + val (ys.take xs.length) = val (xs.take xs.length) + cc * 1000000000 ^ xs.length) : val out = val xs - val ys := by
  rw [List.take_of_length_le (by omega), List.take_of_length_le (by omega), List.take_of_length_le (by omega)] at hv
  have a := val_lt ho
  have b := val_lt hx
  rw [h] at a
  have : cc = 0 ∨ cc = 1 := by omega
  rcases this with rfl | rfl
  · omega
  · omega
theorem length_le_of_val {xs ys : List Nat} (hx : AllB xs) (hy : ∀ (_ : 0 < ys.length), ix ys (ys.length - 1) ≠ 0) (hb : AllB ys) (h : val ys ≤ val xs) : ys.length ≤ xs.length := by
  rw [← dig_of hb hy]
  exact dig_length_le (Nat.lt_of_le_of_lt h (val_lt hx))
/-- one group more of a product: the inner loop's step -/
theorem times_step (out : List Nat) (k s o c c' p q R : Nat) (hk : k < out.length) (ho : ix out k = o) (hv : val out + c * 1000000000 ^ k = R) (e : s + c' * 1000000000 = o + p * q + c) :
    val (out.set k s) + c' * 1000000000 ^ (k + 1) = R + p * q * 1000000000 ^ k := by
  have h := val_set out k s hk
  rw [ho] at h
  have : (s + c' * 1000000000) * 1000000000 ^ k = (o + p * q + c) * 1000000000 ^ k := by rw [e]
  grind
theorem val_lt_of {xs ys : List Nat} (hx : AllB xs) (i : Nat) (hi : i < xs.length) (hl : xs.length = ys.length) (hd : xs.drop (i + 1) = ys.drop (i + 1)) (h : ix xs i < ix ys i) : val xs < val ys := by
  rw [val_split xs (i + 1) (by omega), val_split ys (i + 1) (by omega), hd, val_take_succ, val_take_succ]
  have h1 := val_lt (hx.take i)
  rw [List.length_take, Nat.min_eq_left (by omega)] at h1
  have h2 : (ix xs i + 1) * 1000000000 ^ i ≤ ix ys i * 1000000000 ^ i := Nat.mul_le_mul_right _ h
  have h3 : (ix xs i + 1) * 1000000000 ^ i = ix xs i * 1000000000 ^ i + 1000000000 ^ i := by grind
  omega
theorem dig_lt_of_length {a b : Nat} (h : (dig a).length < (dig b).length) : a < b := by
  rcases Nat.lt_or_ge a b with h1 | h1
  · exact h1
  · have := dig_length_mono h1
    omega
theorem dig_cmp_at (a b i : Nat) (hl : (dig a).length = (dig b).length) (hi : i < (dig a).length) (hd : (dig a).drop (i + 1) = (dig b).drop (i + 1)) (hne : ix (dig a) i ≠ ix (dig b) i) :
    ((a : Int) - b).sign = ((ix (dig a) i : Int) - ix (dig b) i).sign := by
  rcases Nat.lt_or_gt_of_ne hne with h | h
  · have := val_lt_of (AllB.dig a) i hi hl hd h
    rw [val_dig, val_dig] at this
    rw [Int.sign_eq_neg_one_of_neg (by omega), Int.sign_eq_neg_one_of_neg (by omega)]
  · have := val_lt_of (AllB.dig b) i (by omega) hl.symm hd.symm h
    rw [val_dig, val_dig] at this
    rw [Int.sign_eq_one_of_pos (by omega), Int.sign_eq_one_of_pos (by omega)]
theorem mul_lt_base (p q : Nat) (hp : p < 1000000000) (hq : q < 1000000000) : p * q ≤ 999999998000000001 := by
  have := Nat.mul_le_mul (show p ≤ 999999999 by omega) (show q ≤ 999999999 by omega)
  omega
/-- the inner loop's step, with the rest of the outer one -/
theorem times_in (xs ys out : List Nat) (k j c s c' : Nat) (hk : k + j < out.length)
    (hv : val out + c * 1000000000 ^ (k + j) = val (xs.take k) * val ys + ix xs k * val (ys.take j) * 1000000000 ^ k)
    (e : s + c' * 1000000000 = ix out (k + j) + ix xs k * ix ys j + c) :
    val (out.set (k + j) s) + c' * 1000000000 ^ (k + (j + 1)) = val (xs.take k) * val ys + ix xs k * val (ys.take (j + 1)) * 1000000000 ^ k := by
  have h := times_step out (k + j) s _ c c' _ _ _ hk rfl hv e
  rw [val_take_succ ys, show k + (j + 1) = k + j + 1 by omega, h, Nat.pow_add]
  grind
theorem times_out (xs ys out : List Nat) (k c : Nat) (hk : k + ys.length < out.length) (h0 : ix out (k + ys.length) = 0)
    (hv : val out + c * 1000000000 ^ (k + ys.length) = val (xs.take k) * val ys + ix xs k * val (ys.take ys.length) * 1000000000 ^ k) :
    val (out.set (k + ys.length) c) = val (xs.take (k + 1)) * val ys := by
  have h := val_set out (k + ys.length) c hk
  rw [h0] at h
  rw [List.take_length] at hv
  rw [val_take_succ xs]
  grind
end Go.Proofs.YtomjnjpehokjbaaGreatDoor

namespace Go.Proofs.YtomjnjpehokjbaaGreatDoor
open Go.RowKit

/-- the cells behind a slice's address: n of them, the j-th is f j -/
def Row (w : World) (A : Option Addr) (n : Nat) (f : Nat → Value) : Prop :=
  0 < n → ∃ b o, A = some ⟨b, o, none⟩ ∧ b < w.heap.size ∧ ∀ j, j < n → w.cell? ⟨b, o + j, none⟩ = some (f j)
/-- a slice value of n elements that reads as f -/
def Sl (w : World) (v : Value) (n : Nat) (f : Nat → Value) : Prop :=
  ∃ A c, v = .slice A n c ∧ n ≤ c ∧ c ≤ maxLen ∧ (A = none → c = 0) ∧ Row w A n f
def u32 (xs : List Nat) (j : Nat) : Value := .int .u32 (ix xs j : Nat)
/-- a slice of uint32 that reads as a list -/
def U32 (w : World) (v : Value) (xs : List Nat) : Prop := Sl w v xs.length (u32 xs)
/-- a block of the call's own -/
def Own (w : World) (b : Nat) (t : TypeId) (vs : List Value) : Prop := w.heap[b]? = some (.cells vs.toArray t (0, 0))
def u32s (xs : List Nat) : List Value := xs.map fun (x : Nat) => Value.int .u32 x
/-- nothing that lay has turned -/
abbrev Keeps (w w' : World) : Prop := Below w.heap.size w w'
def lenOf : Value → Nat | .slice _ n _ => n | _ => 0

section
variable {w w' : World} {A : Option Addr} {n : Nat} {f : Nat → Value} {v : Value} {xs : List Nat}
theorem Row.zero : Row w A 0 f := fun h => absurd h (by omega)
theorem Row.below (h : Row w A n f) (hb : Below w.heap.size w w') : Row w' A n f := fun hn => by
  obtain ⟨b, o, rfl, hlt, hc⟩ := h hn
  exact ⟨b, o, rfl, Nat.lt_of_lt_of_le hlt hb.size, fun j hj => (hb.cell (p := ⟨b, o + j, none⟩) hlt).trans (hc j hj)⟩
theorem Row.take (h : Row w A n f) {k : Nat} (hk : k ≤ n) : Row w A k f := fun hp => by
  obtain ⟨b, o, rfl, hlt, hc⟩ := h (by omega)
  exact ⟨b, o, rfl, hlt, fun j hj => hc j (by omega)⟩
theorem Row.congr (h : Row w A n f) {g : Nat → Value} (hg : ∀ j, j < n → f j = g j) : Row w A n g := fun hp => by
  obtain ⟨b, o, rfl, hlt, hc⟩ := h hp
  exact ⟨b, o, rfl, hlt, fun j hj => by rw [← hg j hj]; exact hc j hj⟩
theorem Sl.below (h : Sl w v n f) (hb : Below w.heap.size w w') : Sl w' v n f := by
  obtain ⟨A, c, rfl, h1, h2, h0, h3⟩ := h
  exact ⟨A, c, rfl, h1, h2, h0, h3.below hb⟩
theorem U32.below (h : U32 w v xs) (hb : Below w.heap.size w w') : U32 w' v xs := Sl.below h hb
theorem U32.mk {c : Nat} (h : Row w A xs.length (u32 xs)) (h1 : xs.length ≤ c) (h2 : c ≤ maxLen) (h0 : A = none → c = 0) : U32 w (.slice A xs.length c) xs := ⟨A, c, rfl, h1, h2, h0, h⟩
theorem U32.nil : U32 w (.slice none 0 0) [] := ⟨none, 0, rfl, Nat.le_refl _, by simp [maxLen], fun _ => rfl, Row.zero⟩
theorem Row.lt (h : Row w A n f) {b o : Nat} (e : A = some ⟨b, o, none⟩) (hn : 0 < n) : b < w.heap.size := by
  obtain ⟨b', o', e', h1, _⟩ := h hn
  rw [e] at e'
  cases e'
  exact h1

theorem bcell {W w1 : World} (hb : Below W.heap.size W w1) : (∀ b o, b < W.heap.size → w1.cell? ⟨b, o, none⟩ = W.cell? ⟨b, o, none⟩) ∧ (∀ b o, b < W.heap.size → w1.frozen? ⟨b, o, none⟩ = W.frozen? ⟨b, o, none⟩) :=
  ⟨fun b o h => hb.cell (p := ⟨b, o, none⟩) h, fun b o h => hb.frozen (p := ⟨b, o, none⟩) h⟩
theorem Own.lt {b : Nat} {t : TypeId} {vs : List Value} (h : Own w b t vs) : b < w.heap.size := by
  unfold Own at h
  rcases Nat.lt_or_ge b w.heap.size with hlt | hge
  · exact hlt
  · rw [Array.getElem?_eq_none hge] at h; cases h
theorem Own.new (w : World) (t : TypeId) (vs : List Value) : Own (w.alloc (.cells vs.toArray t)) w.heap.size t vs := heap_alloc_new w _
theorem Own.cell {b : Nat} {t : TypeId} {vs : List Value} (h : Own w b t vs) (i : Nat) : w.cell? ⟨b, i, none⟩ = vs[i]? := by
  rw [cell_of_row w b i vs.toArray t (0, 0) h]; simp
theorem Own.frozen {b : Nat} {t : TypeId} {vs : List Value} (h : Own w b t vs) (i : Nat) : w.frozen? ⟨b, i, none⟩ = false := by
  unfold Own at h; simp [World.frozen?, h]
theorem Own.set {b : Nat} {t : TypeId} {vs : List Value} (h : Own w b t vs) (i : Nat) (u : Value) : Own (w.setCell ⟨b, i, none⟩ u) b t (vs.set i u) := by
  unfold Own at h ⊢
  simp [World.setCell, Array.getElem?_modify, h]
theorem Own.c0 {b : Nat} {t : TypeId} {x : Value} {r : List Value} (h : Own w b t (x :: r)) : w.cell? ⟨b, 0, none⟩ = some x := by rw [h.cell]; rfl
theorem Own.c1 {b : Nat} {t : TypeId} {x y : Value} {r : List Value} (h : Own w b t (x :: y :: r)) : w.cell? ⟨b, 1, none⟩ = some y := by rw [h.cell]; rfl
theorem Own.two {b : Nat} {t : TypeId} {x y : Value} (h : Own w b t [x, y]) (x' y' : Value) : Own ((w.setCell ⟨b, 0, none⟩ x').setCell ⟨b, 1, none⟩ y') b t [x', y'] := (h.set 0 x').set 1 y'
theorem Own.drew {b : Nat} {t : TypeId} {vs : List Value} (h : Own w b t vs) : Own w.drew b t vs := h
theorem own2 (w : World) (o : Obj) (t : TypeId) (vs : List Value) : Own ((w.alloc o).alloc (.cells vs.toArray t)) (w.heap.size + 1) t vs := by
  have := Own.new (w.alloc o) t vs
  rwa [World.size_alloc] at this
theorem own3 (w : World) (o o' : Obj) (t : TypeId) (vs : List Value) : Own (((w.alloc o).alloc o').alloc (.cells vs.toArray t)) (w.heap.size + 1 + 1) t vs := by
  have := Own.new ((w.alloc o).alloc o') t vs
  rwa [World.size_alloc, World.size_alloc] at this
theorem keep3 (w : World) (o o' o2 : Obj) : Keeps w (((w.alloc o).alloc o').alloc o2) := (((Below.refl _ _).alloc (Nat.le_refl _) _).alloc (by simp) _).alloc (by simp; omega) _
theorem keep2 (w : World) (o o' : Obj) : Keeps w ((w.alloc o).alloc o') := ((Below.refl _ _).alloc (Nat.le_refl _) _).alloc (by simp) _
theorem Keeps.trans' {w1 : World} (h : Keeps w w1) (h1 : Keeps w1 w') : Keeps w w' := Below.trans h (h1.mono h.size)
theorem Keeps.set (h : Keeps w w') {p : Addr} (hp : w.heap.size ≤ p.block) (u : Value) : Keeps w (w'.setCell p u) := Below.setCell h hp u
theorem Own.alloc {b : Nat} {t : TypeId} {vs : List Value} (h : Own w b t vs) (o : Obj) : Own (w.alloc o) b t vs := (Below.heap_alloc w o b h.lt).trans h
theorem Own.far {b : Nat} {t : TypeId} {vs : List Value} (h : Own w b t vs) {p : Addr} (hp : b ≠ p.block) (u : Value) : Own (w.setCell p u) b t vs := (Below.heap_setCell w p u b hp).trans h
theorem Own.far2 {b R : Nat} {t : TypeId} {vs : List Value} (h : Own w b t vs) (hp : b ≠ R) {x y : Value} : Own ((w.setCell ⟨R, 0, none⟩ x).setCell ⟨R, 1, none⟩ y) b t vs := (h.far (p := ⟨R, 0, none⟩) hp x).far (p := ⟨R, 1, none⟩) hp y
theorem Own.grown {b : Nat} {t : TypeId} {vs : List Value} (h : Own w b t vs) {row : Option Nat} (hg : w.grownBy w' row) (hne : some b ≠ row) : Own w' b t vs := (hg.block b h.lt hne).trans h
theorem Own.keep {b : Nat} {t : TypeId} {vs : List Value} (h : Own w b t vs) {B : Nat} (hb : Below B w w') (hB : b < B) : Own w' b t vs := (hb.block b hB).trans h
theorem Own.below {b : Nat} {t : TypeId} {vs : List Value} (h : Own w b t vs) (hb : Below w.heap.size w w') : Own w' b t vs := h.keep hb h.lt

theorem u32s_length (xs : List Nat) : (u32s xs).length = xs.length := by simp [u32s]
theorem u32s_get (xs : List Nat) (i : Nat) (h : i < xs.length) : (u32s xs)[i]? = some (u32 xs i) := by
  simp [u32s, u32, ix, h]
theorem u32s_set (xs : List Nat) (i x : Nat) : (u32s xs).set i (.int .u32 (x : Nat)) = u32s (xs.set i x) := by
  simp [u32s, List.map_set]
theorem Own.u32cell {b : Nat} {t : TypeId} {xs : List Nat} (h : Own w b t (u32s xs)) {i : Nat} (hi : i < xs.length) : w.cell? ⟨b, i, none⟩ = some (.int .u32 (ix xs i : Nat)) := by
  rw [h.cell, u32s_get xs i hi]; rfl
theorem Own.u32set {b : Nat} {t : TypeId} {xs : List Nat} (h : Own w b t (u32s xs)) (i x : Nat) : Own (w.setCell ⟨b, i, none⟩ (.int .u32 (x : Nat))) b t (u32s (xs.set i x)) := by
  rw [← u32s_set]; exact h.set i _
theorem Own.put {b : Nat} {t : TypeId} {xs : List Nat} (h : Own w b t (u32s xs)) (i x : Nat) {z : Int} (e : z = (x : Int)) : Own (w.setCell ⟨b, i, none⟩ (.int .u32 z)) b t (u32s (xs.set i x)) := by
  subst e; exact h.u32set i x
theorem Own.row {b : Nat} {t : TypeId} {xs : List Nat} (h : Own w b t (u32s xs)) : Row w (some ⟨b, 0, none⟩) xs.length (u32 xs) := fun _ =>
  ⟨b, 0, rfl, h.lt, fun j hj => by rw [Nat.zero_add]; exact h.u32cell hj⟩

/-- a store into a block that holds no u32 keeps every row of u32 -/
def noU32 : Value → Bool | .int .u32 _ => false | _ => true
theorem Row.put {xs : List Nat} {R : Nat} {t : TypeId} {vs : List Value} (h : Row w A n (u32 xs)) (hR : Own w R t vs) (hv : vs.all noU32 = true) (i : Nat) (u : Value) : Row (w.setCell ⟨R, i, none⟩ u) A n (u32 xs) := fun hn => by
  obtain ⟨b, o, rfl, hlt, hc⟩ := h hn
  have hne : b ≠ R := by
    rintro rfl
    have h0 := hc 0 hn
    rw [hR.cell] at h0
    have := List.all_eq_true.1 hv _ (List.mem_of_getElem? h0)
    simp [u32, noU32] at this
  exact ⟨b, o, rfl, by simpa [World.setCell] using hlt, fun j hj => (World.cell?_of_block (Below.heap_setCell w ⟨R, i, none⟩ u b hne)).trans (hc j hj)⟩
theorem U32.put {xs : List Nat} {R : Nat} {t : TypeId} {vs : List Value} (h : U32 w v xs) (hR : Own w R t vs) (hv : vs.all noU32 = true) (i : Nat) (u : Value) : U32 (w.setCell ⟨R, i, none⟩ u) v xs := by
  obtain ⟨A, c, rfl, h1, h2, h0, h3⟩ := h
  exact ⟨A, c, rfl, h1, h2, h0, h3.put hR hv i u⟩
/-- a store into a block from B on keeps a row that lies below B -/
theorem Row.setCell {B : Nat} (h : Row w A n f) (hB : ∀ b o, A = some ⟨b, o, none⟩ → b < B) {p : Addr} (hp : B ≤ p.block) (u : Value) : Row (w.setCell p u) A n f := fun hn => by
  obtain ⟨b, o, rfl, hlt, hc⟩ := h hn
  have := hB b o rfl
  exact ⟨b, o, rfl, by simpa [World.setCell] using hlt, fun j hj => (Below.cell ((Below.refl B w).setCell hp u) (p := ⟨b, o + j, none⟩) this).trans (hc j hj)⟩
end

theorem U32.of_own {w : World} {base : Nat} {t : TypeId} {v : Value} {n : Nat} {xs : List Nat} (h : w.ownsRow base t 1 v n (u32s xs)) : U32 w v xs := by
  have hn : xs.length = n := by have := h.1; rw [u32s_length] at this; omega
  subst hn
  rcases h.2 with ⟨rfl, h0⟩ | ⟨g, cap, cur, rfl, _, hg, hc, hm, hs, ht⟩
  · have : xs = [] := List.eq_nil_of_length_eq_zero h0
    subst this
    exact U32.nil
  · refine ⟨_, cap, rfl, hc, hm, (by intro h; cases h), fun hp => ⟨g, 0, rfl, (Array.getElem?_eq_some_iff.1 hg).1, fun j hj => ?_⟩⟩
    rw [Nat.zero_add, cell_of_row w g j cur t (0, 0) hg]
    have := u32s_get xs j hj
    rw [← ht, List.getElem?_take] at this
    split at this
    · simpa using this
    · cases this
/-- the one cell of a new block -/
theorem newcell (w : World) (x : Value) (t : TypeId) : ∀ (j : Nat) (u : Value), [x][j]? = some u → (w.alloc (.cells #[x] t)).cell? ((⟨w.heap.size, 0, none⟩ : Addr).add j) = some u := by
  intro j u h
  cases j with
  | zero => simp at h; subst h; exact (Own.new w t [x]).cell 0
  | succ j => simp at h
theorem u32s_snoc (xs : List Nat) (x : Nat) {z : Int} (e : z = (x : Int)) : u32s xs ++ [Value.int .u32 z] = u32s (xs ++ [x]) := by subst e; simp [u32s]
/-- where n cells are made by 'make' -/
theorem madeCells_u32 (n : Nat) : madeCells #[Value.int .u32 0] n = (u32s (List.replicate n 0)).toArray := by
  apply Array.ext
  · simp [madeCells, u32s]
  · intro i h1 h2
    simp [madeCells, u32s, Nat.mod_one]
theorem trimL_row {w : World} {A : Option Addr} {xs : List Nat} (h : Row w A xs.length (u32 xs)) : Row w A (trimL xs).length (u32 (trimL xs)) := by
  refine (h.take (trimL_length_le xs)).congr fun j hj => ?_
  unfold u32
  rw [show ix (trimL xs) j = ix xs j by
    rw [trimL_take xs]; exact ix_take xs _ j hj]
theorem U32.trim {w : World} {A : Option Addr} {c : Nat} {xs : List Nat} (h : Row w A xs.length (u32 xs)) (h1 : xs.length ≤ c) (h2 : c ≤ maxLen) (h0 : A = none → c = 0) : U32 w (.slice A (trimL xs).length c) (trimL xs) :=
  ⟨A, c, rfl, Nat.le_trans (trimL_length_le xs) h1, h2, h0, trimL_row h⟩

/-- a block of the call's own, trimmed, as a row that may be appended to -/
theorem owns_trim {w : World} {base b : Nat} {t : TypeId} {out : List Nat} {N : Nat} (h : Own w b t (u32s out)) (hl : out.length = N) (hb : base ≤ b) (hm : N ≤ maxLen) :
    w.ownsRow base t 1 (.slice (some ⟨b, 0, none⟩) (trimL out).length N) (trimL out).length (u32s (trimL out)) := by
  refine ⟨by simp [u32s], .inr ⟨b, N, (u32s out).toArray, rfl, hb, h, by have := trimL_length_le out; omega, hm, by simp [u32s, hl], ?_⟩⟩
  have := trimL_take out
  simp only [Nat.mul_one]
  conv => rhs; rw [this]
  simp [u32s, List.map_take]
/-- append of a row that may be nil, empty or not, of one-cell elements -/
theorem wpList_append_row {P : Program} {w : World} {ops : Array Oper} {rest : List Oper} {o : Oper} {a : Act} {Q : Exit → Act → World → Prop} (hgd : o.guard = none) (s x : Operand) (t : TypeId)
    (ho : o.op = .call { callee := .builtin .append, args := #[s, x], argTypes := #[t, t] })
    (base : Nat) (e : TypeId) (i : TypeInfo) (z : Value) (bytes : Nat) (ht : P.underlying t = some (.slice e)) (hi : P.info? e = some i) (hz : i.zero = some z)
    (hsize : i.size = 1) (hby : i.bytes = bytes) (hzs : z.cells.size = 1)
    (v : Value) (n : Nat) (xs : List Value) (hs : a.eval s = v) (hown : w.ownsRow base e 1 v n xs)
    (A : Option Addr) (m c : Nat) (f : Nat → Value) (hx : a.eval x = .slice A m c) (hA : A = none → c = 0) (hmc : m ≤ c) (hr : Row w A m f) (h1 : ∀ j, (f j).oneCell' = true)
    (h63 : n + m ≤ maxLen) (hbytes : (n + m) * bytes ≤ 140737488355328) (hbase : base ≤ w.heap.size)
    (h : ∀ v' w', w'.ownsRow base e 1 v' (n + m) (xs ++ (List.range m).map f) → w.grownBy w' v.ownBlock → wpList P ops Q rest (a.put o.dst v') w') : wpList P ops Q (o :: rest) a w := by
  rcases A with _ | ad
  · obtain rfl := hA rfl
    obtain rfl : m = 0 := by omega
    exact wpList_append_own_none hgd s x t ho base e i 1 ht hi v n xs hs hown hx (h v w (by simpa using hown) ⟨rfl, rfl, rfl, Nat.le_refl _, fun _ _ _ => rfl⟩)
  · refine wpList_append_own w hgd s x t ho base e i z 1 bytes ht hi hz hsize hby hzs (by omega) v n xs hs hown ad m c ((List.range m).map f) hx (by simp) ?_ (by intro u hu; obtain ⟨j, _, rfl⟩ := List.mem_map.1 hu; exact h1 j) h63 hbytes hbase (fun v' w' h2 h3 _ => h v' w' h2 h3)
    intro j u hu
    have hj : j < m := by
      rcases Nat.lt_or_ge j m with h | h
      · exact h
      · rw [List.getElem?_eq_none (by simpa using h)] at hu; cases hu
    obtain ⟨b, off, e1, _, hc⟩ := hr (by omega)
    cases e1
    rw [List.getElem?_map, List.getElem?_range hj] at hu
    cases hu
    have e2 : (⟨b, off, none⟩ : Addr).add j = ⟨b, off + j, none⟩ := by unfold Addr.add; split <;> simp_all
    rw [e2]
    exact hc j hj
theorem u32s_take (xs : List Nat) (k : Nat) (h : k ≤ xs.length) : (List.range k).map (u32 xs) = u32s (xs.take k) := by
  apply List.ext_getElem
  · simp [u32s, h]
  · intro i h1 h2
    have h3 : i < xs.length := by simp [u32s] at h2; omega
    simp [u32s, u32, ix, h3]
theorem u32s_range (xs : List Nat) : (List.range xs.length).map (u32 xs) = u32s xs := by
  apply List.ext_getElem
  · simp [u32s]
  · intro i h1 h2
    have h3 : i < xs.length := by simpa [u32s] using h2
    simp [u32s, u32, ix, h3]
end Go.Proofs.YtomjnjpehokjbaaGreatDoor

namespace Go.Proofs.YtomjnjpehokjbaaGreatDoor
open Go.RowKit
theorem made1 (w : World) (t : TypeId) : (w.alloc (.cells #[] t)).ownsRow w.heap.size t 1 (.slice (some ⟨w.heap.size, 0, none⟩) 0 0) 0 [] :=
  World.ownsRow_made w #[] 0 (Nat.le_refl _) (by simp [maxLen]) rfl
theorem made2 (w : World) (o : Obj) (t : TypeId) : ((w.alloc o).alloc (.cells #[] t)).ownsRow (w.heap.size + 1) t 1 (.slice (some ⟨w.heap.size + 1, 0, none⟩) 0 0) 0 [] := by
  have := made1 (w.alloc o) t
  rwa [World.size_alloc] at this
theorem below_drewN {B : Nat} {a w : World} (h : Below B a w) (n : Nat) : Below B a (w.drewN n) := ⟨h.os, h.tape, h.output, h.size, h.block⟩
theorem Own.drewN {w : World} {b : Nat} {t : TypeId} {vs : List Value} (h : Own w b t vs) (n : Nat) : Own (w.drewN n) b t vs := h
theorem Row.drewN {w : World} {A : Option Addr} {m : Nat} {f : Nat → Value} (h : Row w A m f) (n : Nat) : Row (w.drewN n) A m f := h
theorem U32.drewN {w : World} {v : Value} {xs : List Nat} (h : U32 w v xs) (n : Nat) : U32 (w.drewN n) v xs := h
theorem U32.drew {w : World} {v : Value} {xs : List Nat} (h : U32 w v xs) : U32 w.drew v xs := h
theorem Keeps.drewN {w w' : World} (h : Keeps w w') (n : Nat) : Keeps w (w'.drewN n) := below_drewN h n
theorem bne_cast (x : Nat) : (((x : Nat) : Int) != 0) = (x != 0) := by rw [Bool.eq_iff_iff]; simp
theorem ret_bool {a b : Bool} (h : b = a) : Ending.returned (.bool a) = .returned (.bool b) := by rw [h]

theorem wp_append_row {P : Program} {w : World} {o : Oper} {a : Act} {K : Act → World → Prop} {Q : Exit → Act → World → Prop} (s x : Operand) (t : TypeId)
    (ho : o.op = .call { callee := .builtin .append, args := #[s, x], argTypes := #[t, t] })
    (base : Nat) (e : TypeId) (i : TypeInfo) (z : Value) (bytes : Nat) (ht : P.underlying t = some (.slice e)) (hi : P.info? e = some i) (hz : i.zero = some z)
    (hsize : i.size = 1) (hby : i.bytes = bytes) (hzs : z.cells.size = 1)
    (v : Value) (n : Nat) (xs : List Value) (hs : a.eval s = v) (hown : w.ownsRow base e 1 v n xs)
    (A : Option Addr) (m c : Nat) (f : Nat → Value) (hx : a.eval x = .slice A m c) (hA : A = none → c = 0) (hmc : m ≤ c) (hr : Row w A m f) (h1 : ∀ j, (f j).oneCell' = true)
    (h63 : n + m ≤ maxLen) (hbytes : (n + m) * bytes ≤ 140737488355328) (hbase : base ≤ w.heap.size)
    (h : ∀ v' w', w'.ownsRow base e 1 v' (n + m) (xs ++ (List.range m).map f) → w.grownBy w' v.ownBlock → K (a.put o.dst v') w') : o.wp P a w K Q := by
  rcases A with _ | ad
  · obtain rfl := hA rfl
    obtain rfl : m = 0 := by omega
    have hrun := run_append_owned_none (P := P) (w := w) base t o.type e i 1 ht hi v n xs hown
    unfold Oper.wp
    simp only [execOp, ho, resolve, invoke, builtin, Sem.run_bind, Sem.run_pure, Result.andThen_ok, List.map_toArray, List.map_cons, List.map_nil, hs, hx, hrun]
    exact h v w (by simpa using hown) ⟨rfl, rfl, rfl, Nat.le_refl _, fun _ _ _ => rfl⟩
  · refine wp_append_own w s x t ho base e i z 1 bytes ht hi hz hsize hby hzs (by omega) v n xs hs hown ad m c ((List.range m).map f) hx (by simp) ?_ (by intro u hu; obtain ⟨j, _, rfl⟩ := List.mem_map.1 hu; exact h1 j) h63 hbytes hbase (fun v' w' h2 h3 _ => h v' w' h2 h3)
    intro j u hu
    have hj : j < m := by
      rcases Nat.lt_or_ge j m with h | h
      · exact h
      · rw [List.getElem?_eq_none (by simpa using h)] at hu; cases hu
    obtain ⟨b, off, e1, _, hc⟩ := hr (by omega)
    cases e1
    rw [List.getElem?_map, List.getElem?_range hj] at hu
    cases hu
    have e2 : (⟨b, off, none⟩ : Addr).add j = ⟨b, off + j, none⟩ := by unfold Addr.add; split <;> simp_all
    rw [e2]
    exact hc j hj
theorem step_append_row {P : Program} {w : World} {ops : Array Oper} {o : Oper} {a : Act} {K : Act → World → Prop} {Q : Exit → Act → World → Prop} {E : Prop} (hgd : o.guard = none) (s x : Operand) (t : TypeId)
    (ho : o.op = .call { callee := .builtin .append, args := #[s, x], argTypes := #[t, t] })
    (base : Nat) (e : TypeId) (i : TypeInfo) (z : Value) (bytes : Nat) (ht : P.underlying t = some (.slice e)) (hi : P.info? e = some i) (hz : i.zero = some z)
    (hsize : i.size = 1) (hby : i.bytes = bytes) (hzs : z.cells.size = 1)
    (v : Value) (n : Nat) (xs : List Value) (hs : a.eval s = v) (hown : w.ownsRow base e 1 v n xs)
    (A : Option Addr) (m c : Nat) (f : Nat → Value) (hx : a.eval x = .slice A m c) (hA : A = none → c = 0) (hmc : m ≤ c) (hr : Row w A m f) (h1 : ∀ j, (f j).oneCell' = true)
    (h63 : n + m ≤ maxLen) (hbytes : (n + m) * bytes ≤ 140737488355328) (hbase : base ≤ w.heap.size)
    (h : ∀ v' w', w'.ownsRow base e 1 v' (n + m) (xs ++ (List.range m).map f) → w.grownBy w' v.ownBlock → K (a.put o.dst v') w') :
    if Region.wanted o (yielded ops a.tmps) = true then Oper.wp P o a w K Q else E := by
  have hw : Region.wanted o (yielded ops a.tmps) = true := by simp [Region.wanted, hgd]
  rw [if_pos hw]
  exact wp_append_row s x t ho base e i z bytes ht hi hz hsize hby hzs v n xs hs hown A m c f hx hA hmc hr h1 h63 hbytes hbase h
end Go.Proofs.YtomjnjpehokjbaaGreatDoor

namespace Go.Proofs.YtomjnjpehokjbaaGreatDoor
open Go.RowKit

/-- nothing that lay has turned but blocks of T -/
structure Turn (T : List Nat) (w w' : World) : Prop where
  os : w'.os = w.os
  tape : w'.tape = w.tape
  output : w'.output = w.output
  size : w.heap.size ≤ w'.heap.size
  block : ∀ k, k < w.heap.size → k ∉ T → w'.heap[k]? = w.heap[k]?
/-- the block that a slice of one's own lies in -/
abbrev blkOf (v : Value) : List Nat := v.ownBlock.toList
section
variable {T T' : List Nat} {w w' w1 : World} {B : Nat}
theorem Turn.of_below (h : Below B w w') (hT : ∀ k, k < w.heap.size → B ≤ k → k ∈ T) : Turn T w w' :=
  ⟨h.os, h.tape, h.output, h.size, fun k hk hn => h.block k (Nat.lt_of_not_le fun hB => hn (hT k hk hB))⟩
theorem Turn.of_keeps (h : Keeps w w') : Turn T w w' := .of_below h fun _ h1 h2 => absurd h1 (by omega)
theorem Turn.refl (w : World) : Turn T w w := ⟨rfl, rfl, rfl, Nat.le_refl _, fun _ _ _ => rfl⟩
theorem Turn.below (h : Turn T w w') (hT : ∀ k ∈ T, B ≤ k) (hB : B ≤ w.heap.size) : Below B w w' :=
  ⟨h.os, h.tape, h.output, h.size, fun k hk => h.block k (by omega) fun hm => by have := hT k hm; omega⟩
theorem Turn.keeps (h : Turn T w w') (hT : ∀ k ∈ T, w.heap.size ≤ k) : Keeps w w' := h.below hT (Nat.le_refl _)
theorem Turn.trans (h : Turn T w w1) (h1 : Turn T' w1 w') (hT : ∀ k ∈ T', k < w.heap.size → k ∈ T) : Turn T w w' :=
  ⟨h1.os.trans h.os, h1.tape.trans h.tape, h1.output.trans h.output, Nat.le_trans h.size h1.size, fun k hk hn =>
    (h1.block k (Nat.lt_of_lt_of_le hk h.size) fun hm => hn (hT k hm hk)).trans (h.block k hk hn)⟩
theorem Turn.mono (h : Turn T w w') (hT : ∀ k ∈ T, k ∈ T') : Turn T' w w' :=
  ⟨h.os, h.tape, h.output, h.size, fun k hk hn => h.block k hk fun hm => hn (hT k hm)⟩
theorem Turn.set (h : Turn T w w') {p : Addr} (hp : p.block ∈ T) (u : Value) : Turn T w (w'.setCell p u) :=
  ⟨h.os, h.tape, h.output, by simpa [World.setCell] using h.size, fun k hk hn =>
    (Below.heap_setCell w' p u k (fun e => hn (e ▸ hp))).trans (h.block k hk hn)⟩
theorem Turn.alloc (h : Turn T w w') (o : Obj) : Turn T w (w'.alloc o) :=
  h.trans (T' := []) (Turn.of_keeps ((Below.refl _ _).alloc (Nat.le_refl _) _)) (by simp)
theorem Turn.drew (h : Turn T w w') : Turn T w w'.drew := ⟨h.os, h.tape, h.output, h.size, h.block⟩
theorem Turn.drewN (h : Turn T w w') (n : Nat) : Turn T w (w'.drewN n) := ⟨h.os, h.tape, h.output, h.size, h.block⟩
theorem Turn.of_grown {v : Value} (h : w.grownBy w' v.ownBlock) : Turn (blkOf v) w w' :=
  ⟨h.os, h.tape, h.output, h.size, fun k hk hn => h.block k hk fun e => hn (by rw [blkOf, ← e]; simp)⟩
theorem Own.turn {b : Nat} {t : TypeId} {vs : List Value} (h : Own w b t vs) (ht : Turn T w w') (hb : b ∉ T) : Own w' b t vs := (ht.block b h.lt hb).trans h
section
variable {base : Nat} {e : TypeId} {size : Nat} {v : Value} {n : Nat} {xs : List Value}
theorem _root_.Go.World.ownsRow.turn (h : w.ownsRow base e size v n xs) (ht : Turn T w w') (hv : ∀ k ∈ blkOf v, k ∉ T) : w'.ownsRow base e size v n xs := by
  obtain ⟨hl, ⟨rfl, rfl⟩ | ⟨g, cap, cur, rfl, hb, hg, hr⟩⟩ := h
  · exact ⟨hl, .inl ⟨rfl, rfl⟩⟩
  · have hlt : g < w.heap.size := (Array.getElem?_eq_some_iff.1 hg).1
    exact ⟨hl, .inr ⟨g, cap, cur, rfl, hb, (ht.block g hlt (hv g (by simp [blkOf, Value.ownBlock]))).trans hg, hr⟩⟩
theorem _root_.Go.World.ownsRow.keeps (h : w.ownsRow base e size v n xs) (hk : Keeps w w') : w'.ownsRow base e size v n xs := h.turn (Turn.of_keeps (T := []) hk) (by simp)
theorem _root_.Go.World.ownsRow.down {base' : Nat} (h : w.ownsRow base e size v n xs) (hb : base' ≤ base) : w.ownsRow base' e size v n xs := by
  obtain ⟨hl, h | ⟨g, cap, cur, rfl, hb', hr⟩⟩ := h
  · exact ⟨hl, .inl h⟩
  · exact ⟨hl, .inr ⟨g, cap, cur, rfl, Nat.le_trans hb hb', hr⟩⟩
/-- the form of a row of one's own -/
theorem _root_.Go.World.ownsRow.sl (h : w.ownsRow base e size v n xs) : ∃ A c, v = .slice A n c ∧ n ≤ c ∧ c ≤ maxLen ∧ (A = none → c = 0) := by
  obtain ⟨hl, ⟨rfl, rfl⟩ | ⟨g, cap, cur, rfl, hb, hg, h1, h2, hr⟩⟩ := h
  · exact ⟨none, 0, rfl, Nat.le_refl _, by simp [maxLen], fun _ => rfl⟩
  · exact ⟨_, cap, rfl, h1, h2, fun e => by cases e⟩
theorem _root_.Go.World.ownsRow.lo (h : w.ownsRow base e size v n xs) : ∀ k ∈ blkOf v, base ≤ k ∧ k < w.heap.size := fun k hk => by
  simp only [blkOf, Option.mem_toList] at hk
  exact h.lt k hk
end
end
/-- the j-th cell of a list, nothing behind the end -/
def at' (xs : List Value) (j : Nat) : Value := xs.getD j undef
/-- what a row of cells reads as -/
abbrev Cells (w : World) (A : Option Addr) (xs : List Value) : Prop := Row w A xs.length (at' xs)
theorem at'_get {xs : List Value} {j : Nat} {v : Value} (h : xs[j]? = some v) : at' xs j = v := by simp [at', h]
theorem Cells.get {w : World} {A : Option Addr} {xs : List Value} (h : Cells w A xs) {j : Nat} {v : Value} (hj : xs[j]? = some v) : ∃ b o, A = some ⟨b, o, none⟩ ∧ b < w.heap.size ∧ w.cell? ⟨b, o + j, none⟩ = some v := by
  have hlt := (List.getElem?_eq_some_iff.1 hj).1
  obtain ⟨b, o, e, hb, hc⟩ := h (by omega)
  exact ⟨b, o, e, hb, by rw [hc j hlt, at'_get hj]⟩
theorem _root_.Go.World.ownsRow.cells' {w : World} {base : Nat} {e : TypeId} {size : Nat} {A : Option Addr} {n c : Nat} {xs : List Value} (h : w.ownsRow base e size (.slice A n c) n xs) : Cells w A xs := fun hp => by
  obtain ⟨hl, ⟨h1, rfl⟩ | ⟨g, cap, cur, h1, hb, hg, h2, h3, h4, h5⟩⟩ := h
  · omega
  · cases h1
    refine ⟨g, 0, rfl, (Array.getElem?_eq_some_iff.1 hg).1, fun j hj => ?_⟩
    rw [cell_of_row w g (0 + j) cur _ _ hg, Nat.zero_add, at', ← h5]
    have hj2 : j < n * size := by omega
    have hj3 : j < cur.size := by rw [← h5] at hj; simp at hj; omega
    simp [List.getD, hj2, hj3]
end Go.Proofs.YtomjnjpehokjbaaGreatDoor

namespace Go.Proofs.YtomjnjpehokjbaaGreatDoor

def dch (x : Nat) : UInt8 := UInt8.ofNat (48 + x % 10)
/-- the k lowest decimal digits -/
def low : Nat → Nat → List UInt8
  | 0, _ => []
  | k + 1, x => low k (x / 10) ++ [dch x]
/-- the digits of a positive number, nothing for 0 -/
def txt (m : Nat) : List UInt8 := if m = 0 then [] else Lib.decDigits m
def textL (z : Int) : List UInt8 := if z = 0 then [48] else (if z < 0 then [45] else []) ++ Lib.decDigits z.natAbs

theorem low_length : ∀ k x, (low k x).length = k
  | 0, _ => rfl
  | k + 1, x => by rw [low, List.length_append, low_length k]; rfl
theorem low_zero : ∀ k, low k 0 = List.replicate k 48
  | 0 => rfl
  | k + 1 => by rw [low, show (0 : Nat) / 10 = 0 from rfl, low_zero k, List.replicate_succ']; rfl
theorem txt_step (m : Nat) (h : 0 < m) : txt m = txt (m / 10) ++ [dch m] := by
  unfold txt
  rw [if_neg (by omega), Lib.decDigits]
  by_cases h10 : m < 10
  · rw [dif_pos h10, if_pos (by omega)]
    simp [dch, Nat.mod_eq_of_lt h10]
  · rw [dif_neg h10, if_neg (by omega)]; rfl
theorem txt_group : ∀ (k V x : Nat), 0 < V → x < 10 ^ k → txt (V * 10 ^ k + x) = txt V ++ low k x
  | 0, V, x, _, hx => by
    obtain rfl : x = 0 := by simpa using hx
    simp [low]
  | k + 1, V, x, hV, hx => by
    have hp : 0 < V * 10 ^ (k + 1) := Nat.mul_pos hV (Nat.pow_pos (by omega))
    rw [txt_step _ (by omega), low]
    have e1 : (V * 10 ^ (k + 1) + x) / 10 = V * 10 ^ k + x / 10 := by
      rw [Nat.pow_succ, ← Nat.mul_assoc, Nat.mul_comm (V * 10 ^ k) 10, Nat.mul_add_div (by omega)]
    have e2 : dch (V * 10 ^ (k + 1) + x) = dch x := by
      unfold dch
      rw [Nat.pow_succ, ← Nat.mul_assoc, Nat.mul_comm (V * 10 ^ k) 10, Nat.mul_add_mod]
    rw [e1, e2, txt_group k V (x / 10) hV (by rw [Nat.pow_succ] at hx; omega), List.append_assoc]
theorem pad_low : ∀ (k x : Nat), x < 10 ^ k → 0 < k → List.replicate (k - (Lib.decDigits x).length) 48 ++ Lib.decDigits x = low k x
  | k + 1, x, hx, _ => by
    rw [low]
    by_cases h10 : x < 10
    · rw [Lib.decDigits, dif_pos h10, show x / 10 = 0 by omega, low_zero]
      simp [dch, Nat.mod_eq_of_lt h10]
    · rw [Lib.decDigits, dif_neg h10]
      have hk : 0 < k := Nat.pos_of_ne_zero fun e => by subst e; simp at hx; omega
      rw [← pad_low k (x / 10) (by rw [Nat.pow_succ] at hx; omega) hk]
      simp only [List.length_append, List.length_cons, List.length_nil, List.append_assoc]
      rw [show k + 1 - ((Lib.decDigits (x / 10)).length + (0 + 1)) = k - (Lib.decDigits (x / 10)).length by omega]
      rfl
theorem low_cons : ∀ (k x : Nat), low (k + 1) x = dch (x / 10 ^ k) :: low k x
  | 0, x => by simp [low]
  | k + 1, x => by
    rw [low, low_cons k (x / 10), low, Nat.div_div_eq_div_mul, Nat.pow_succ, Nat.mul_comm (10 ^ k) 10]
    rfl
theorem decDigits_len (x : Nat) (h : x < 1000000000) : (Lib.decDigits x).length ≤ 9 ∧ 0 < (Lib.decDigits x).length := by
  have h1 := congrArg List.length (pad_low 9 x (by omega) (by omega))
  rw [List.length_append, List.length_replicate, low_length] at h1
  refine ⟨by omega, ?_⟩
  rw [Lib.decDigits]
  split <;> simp
theorem txt_pos (m : Nat) (h : m ≠ 0) : txt m = Lib.decDigits m := if_neg h
theorem txt_pad (V x : Nat) (hV : 0 < V) (hx : x < 1000000000) : txt (V * 1000000000 + x) = txt V ++ (List.replicate (9 - (Lib.decDigits x).length) 48 ++ Lib.decDigits x) := by
  rw [pad_low 9 x (by omega) (by omega), ← txt_group 9 V x hV (by omega)]
theorem drop_pos (m q : Nat) (h : q < (dig m).length) : 0 < val ((dig m).drop q) := by
  rcases Nat.eq_zero_or_pos (val ((dig m).drop q)) with h0 | h0
  · have h1 := val_split (dig m) q (by omega)
    rw [h0, Nat.mul_zero, Nat.add_zero, val_dig] at h1
    have h2 := val_lt ((AllB.dig m).take q)
    rw [List.length_take, Nat.min_eq_left (by omega), ← h1] at h2
    have h3 := dig_length_le h2
    omega
  · exact h0
theorem txt_len : ∀ (K m : Nat), m < 10 ^ K → (txt m).length ≤ K
  | 0, m, h => by
    obtain rfl : m = 0 := by simpa using h
    simp [txt]
  | K + 1, m, h => by
    rcases Nat.eq_zero_or_pos m with rfl | hp
    · simp [txt]
    · rw [txt_step m hp, List.length_append]
      have := txt_len K (m / 10) (by rw [Nat.pow_succ] at h; omega)
      simp only [List.length_cons, List.length_nil]
      omega
theorem txt_drop_len (m j : Nat) : (txt (val ((dig m).drop j))).length ≤ 9 * (dig m).length := by
  have h := val_lt ((AllB.dig m).drop j)
  have h2 := txt_len (9 * ((dig m).drop j).length) _ (by rw [Nat.pow_mul]; exact h)
  rw [List.length_drop] at h2
  omega
def padN (k L : Nat) : Nat := if k = 0 then 0 else 9 - L
theorem txt_round (m n k q : Nat) (hn : (dig m).length = n) (hk : k < n) (hq : n - 1 - k = q) :
    txt (val ((dig m).drop (n - (k + 1)))) = txt (val ((dig m).drop (n - k))) ++ (List.replicate (padN k (Lib.decDigits (ix (dig m) q)).length) 48 ++ Lib.decDigits (ix (dig m) q)) := by
  have hd := val_drop (dig m) q (by omega)
  rw [show n - (k + 1) = q by omega, hd, show n - k = q + 1 by omega]
  unfold padN
  by_cases h0 : k = 0
  · have h1 : val ((dig m).drop (q + 1)) = 0 := by rw [List.drop_of_length_le (by omega)]; simp [val]
    have h2 := drop_pos m q (by omega)
    rw [hd, h1] at h2
    rw [if_pos h0, h1, Nat.mul_zero, Nat.add_zero, txt_pos _ (by omega)]
    simp [txt]
  · rw [if_neg h0, Nat.add_comm, Nat.mul_comm, txt_pad _ _ (drop_pos m (q + 1) (by omega)) ((AllB.dig m).ix q)]
end Go.Proofs.YtomjnjpehokjbaaGreatDoor

namespace Go.Proofs.YtomjnjpehokjbaaGreatDoor

/-- the number with this canonical text, if it is not too great -/
def cntP (s : List UInt8) : Option Nat :=
  match Lib.atoiAll s with
  | .ok v => if 0 ≤ v ∧ v ≤ 65536 ∧ Lib.decDigits v.toNat = s then some v.toNat else none
  | _ => none
theorem parse_snoc : ∀ (l : List UInt8) (acc u d : Nat), Lib.parseUint10 acc l = .ok u → d < 10 → u * 10 + d < 18446744073709551616 → Lib.parseUint10 acc (l ++ [UInt8.ofNat (48 + d)]) = .ok (u * 10 + d)
  | [], acc, u, d, h, hd, hu => by
    simp only [Lib.parseUint10] at h
    injection h with h
    subst h
    have h1 : (UInt8.ofNat (48 + d)).toNat = 48 + d := by simp; omega
    simp only [List.nil_append, Lib.parseUint10, h1]
    rw [if_pos (by omega), if_neg (by omega), if_neg (by omega)]
    congr 1
    omega
  | c :: r, acc, u, d, h, hd, hu => by
    simp only [Lib.parseUint10, List.cons_append] at h ⊢
    split at h
    · rename_i h1
      rw [if_pos h1]
      split at h
      · cases h
      · rename_i h2
        rw [if_neg h2]
        split at h
        · cases h
        · rename_i h3
          rw [if_neg h3]
          exact parse_snoc r _ u d h hd hu
    · cases h
theorem parse_dec (n : Nat) : n < 18446744073709551616 → Lib.parseUint10 0 (Lib.decDigits n) = .ok n := by
  induction n using Nat.strongRecOn with
  | ind n ih =>
    intro hn
    rw [Lib.decDigits]
    by_cases h : n < 10
    · rw [dif_pos h]
      have := parse_snoc [] 0 0 n rfl h (by omega)
      simpa using this
    · rw [dif_neg h]
      have := parse_snoc _ 0 (n / 10) (n % 10) (ih (n / 10) (by omega) (by omega)) (by omega) (by omega)
      rw [show n / 10 * 10 + n % 10 = n by omega] at this
      exact this
theorem dec_head (n : Nat) : ∃ c r, Lib.decDigits n = c :: r ∧ 48 ≤ c.toNat ∧ c.toNat ≤ 57 := by
  induction n using Nat.strongRecOn with
  | ind n ih =>
    rw [Lib.decDigits]
    by_cases h : n < 10
    · rw [dif_pos h]
      refine ⟨_, [], rfl, ?_⟩
      simp
      omega
    · rw [dif_neg h]
      obtain ⟨c, r, h1, h2⟩ := ih (n / 10) (by omega)
      exact ⟨c, r ++ [_], by rw [h1]; rfl, h2⟩
theorem atoi_dec (n : Nat) (h : n ≤ 65536) : Lib.atoiAll (Lib.decDigits n) = .ok (n : Int) := by
  have h1 := parse_dec n (by omega)
  obtain ⟨c, r, hc, h2, h3⟩ := dec_head n
  rw [hc] at h1 ⊢
  unfold Lib.atoiAll
  have h4 : ¬ (c.toNat = 43 ∨ c.toNat = 45) := by omega
  have h5 : ¬ (c.toNat = 45) := by omega
  simp only [h4, if_false]
  unfold Lib.parseMag
  rw [if_neg (by simp), h1]
  simp only [h5]
  rw [if_neg (by omega), if_neg (by simp)]
  rfl
theorem cntP_iff {s : List UInt8} {n : Nat} : cntP s = some n ↔ n ≤ 65536 ∧ s = Lib.decDigits n := by
  unfold cntP
  constructor
  · intro h
    split at h
    · rename_i v hv
      split at h
      · rename_i hc
        cases h
        exact ⟨by omega, hc.2.2.symm⟩
      · cases h
    · cases h
  · rintro ⟨h, rfl⟩
    rw [atoi_dec n h]
    simp only [Int.toNat_natCast]
    rw [if_pos ⟨by omega, by omega, trivial⟩]
theorem dec_digit (n : Nat) : ∀ c ∈ Lib.decDigits n, 48 ≤ c.toNat ∧ c.toNat ≤ 57 := by
  induction n using Nat.strongRecOn with
  | ind n ih =>
    rw [Lib.decDigits]
    by_cases h : n < 10
    · rw [dif_pos h]
      intro c hc
      simp only [List.mem_singleton] at hc
      subst hc
      simp
      omega
    · rw [dif_neg h]
      intro c hc
      rcases List.mem_append.1 hc with hc | hc
      · exact ih (n / 10) (by omega) c hc
      · simp only [List.mem_singleton] at hc
        subst hc
        simp
        omega
end Go.Proofs.YtomjnjpehokjbaaGreatDoor

namespace Go.Proofs.YtomjnjpehokjbaaGreatDoor
open Go

def isDg (c : UInt8) : Bool := decide (48 ≤ c.toNat ∧ c.toNat ≤ 57)
def valD (l : List UInt8) : Nat := l.foldl (fun a c => a * 10 + (c.toNat - 48)) 0
theorem foldl_val (l : List UInt8) : ∀ a : Nat, l.foldl (fun a c => a * 10 + (c.toNat - 48)) a = a * 10 ^ l.length + valD l := by
  induction l with
  | nil => intro a; simp [valD]
  | cons c r ih =>
    intro a
    have e : valD (c :: r) = (0 * 10 + (c.toNat - 48)) * 10 ^ r.length + valD r := ih _
    rw [List.foldl_cons, ih, e, List.length_cons, Nat.pow_succ, Nat.zero_mul, Nat.zero_add, Nat.add_mul, Nat.mul_assoc, Nat.mul_comm 10 (10 ^ r.length)]
    omega
theorem snoc_induct {P : List UInt8 → Prop} (h0 : P []) (hs : ∀ l a, P l → P (l ++ [a])) (l : List UInt8) : P l := by
  rw [← List.reverse_reverse l]
  induction l.reverse with
  | nil => exact h0
  | cons a r ih => rw [List.reverse_cons]; exact hs _ _ ih
theorem valD_nil : valD [] = 0 := rfl
theorem valD_append (a b : List UInt8) : valD (a ++ b) = valD a * 10 ^ b.length + valD b := by
  unfold valD
  rw [List.foldl_append, foldl_val]
  rfl
theorem valD_one (c : UInt8) : valD [c] = c.toNat - 48 := by simp [valD]
theorem valD_snoc (l : List UInt8) (c : UInt8) : valD (l ++ [c]) = valD l * 10 + (c.toNat - 48) := by
  rw [valD_append, valD_one]; simp
theorem isDg_le {c : UInt8} (h : isDg c = true) : c.toNat - 48 ≤ 9 ∧ 48 ≤ c.toNat := by
  unfold isDg at h; simp at h; omega
theorem valD_lt (l : List UInt8) (h : l.all isDg = true) : valD l < 10 ^ l.length := by
  revert h
  refine snoc_induct (P := fun l => l.all isDg = true → valD l < 10 ^ l.length) (fun _ => by simp [valD]) (fun l c ih h => ?_) l
  · rw [List.all_append] at h
    simp only [List.all_cons, List.all_nil, Bool.and_true, Bool.and_eq_true] at h
    have h1 := ih h.1
    have h2 := isDg_le h.2
    rw [valD_snoc, List.length_append, List.length_singleton, Nat.pow_succ]
    omega
/-- the text of the value: the digits, where the first is not 0 -/
theorem txt_valD (l : List UInt8) (h : l.all isDg = true) (h0 : ∀ c r, l = c :: r → c ≠ 48) : txt (valD l) = l := by
  revert h h0
  refine snoc_induct (P := fun l => l.all isDg = true → (∀ c r, l = c :: r → c ≠ 48) → txt (valD l) = l) (fun _ _ => rfl) (fun l c ih h h0 => ?_) l
  · rw [List.all_append] at h
    simp only [List.all_cons, List.all_nil, Bool.and_true, Bool.and_eq_true] at h
    have h2 := isDg_le h.2
    have hi := ih h.1 (fun c' r e => h0 c' (r ++ [c]) (by rw [e]; rfl))
    have hpos : 0 < valD (l ++ [c]) := by
      rw [valD_snoc]
      cases l with
      | nil =>
        have hc := h0 c [] rfl
        have : c.toNat ≠ 48 := fun e => hc (UInt8.toNat_inj.1 (by rw [e]; rfl))
        simp [valD]
        omega
      | cons c' r =>
        rcases Nat.eq_zero_or_pos (valD (c' :: r)) with hz | hz
        · rw [hz] at hi
          simp [txt] at hi
        · omega
    rw [txt_step _ hpos, valD_snoc, show (valD l * 10 + (c.toNat - 48)) / 10 = valD l by omega, hi]
    congr 2
    unfold dch
    rw [show 48 + (valD l * 10 + (c.toNat - 48)) % 10 = c.toNat by omega]
    simp
theorem txt_digits (m : Nat) : (txt m).all isDg = true ∧ valD (txt m) = m ∧ (∀ c r, txt m = c :: r → c ≠ 48) := by
  induction m using Nat.strongRecOn with
  | _ m ih =>
    rcases Nat.eq_zero_or_pos m with h0 | hp
    · subst h0; refine ⟨rfl, rfl, fun c r e => ?_⟩; simp [txt] at e
    · obtain ⟨h1, h2, h3⟩ := ih (m / 10) (by omega)
      have hd : (dch m).toNat = 48 + m % 10 := by
        unfold dch
        rw [UInt8.toNat_ofNat']
        omega
      rw [txt_step m hp]
      refine ⟨?_, ?_, fun c r e => ?_⟩
      · rw [List.all_append, h1]
        simp [isDg, hd]
        omega
      · rw [valD_snoc, h2, hd]; omega
      · cases ht : txt (m / 10) with
        | nil =>
          rw [ht] at e
          simp only [List.nil_append, List.cons.injEq] at e
          have hz : m / 10 = 0 := by
            rcases Nat.eq_zero_or_pos (m / 10) with h | h
            · exact h
            · rw [txt_step _ h] at ht
              simp at ht
          intro e2
          have := congrArg UInt8.toNat (e.1.trans e2)
          rw [hd] at this
          simp at this
          omega
        | cons c' r' =>
          rw [ht] at e
          simp only [List.cons_append, List.cons.injEq] at e
          rw [← e.1]
          exact h3 c' r' ht
theorem decFrom_all (l : List UInt8) : ∀ a : Nat, l.all isDg = true → Lib.decFrom a l = some (l.foldl (fun a c => a * 10 + (c.toNat - 48)) a) := by
  induction l with
  | nil => intro a _; rfl
  | cons c r ih =>
    intro a h
    rw [List.all_cons, Bool.and_eq_true] at h
    have h2 := h.1
    unfold isDg at h2
    simp only [decide_eq_true_eq] at h2
    rw [Lib.decFrom, Lib.digitVal, if_pos h2]
    exact ih _ h.2
theorem atoi_all (l : List UInt8) (h : l.all isDg = true) (h0 : l ≠ []) : Lib.atoi l = some (valD l : Int) := by
  cases l with
  | nil => exact absurd rfl h0
  | cons c r =>
    have h2 : isDg c = true := by rw [List.all_cons, Bool.and_eq_true] at h; exact h.1
    have h3 := (isDg_le h2).2
    have e1 : (c == 45) = false := by rw [beq_eq_false_iff_ne]; intro e; rw [e] at h3; exact absurd h3 (by decide)
    have e2 : (c == 43) = false := by rw [beq_eq_false_iff_ne]; intro e; rw [e] at h3; exact absurd h3 (by decide)
    unfold Lib.atoi
    simp only [e1, e2, Bool.false_eq_true, if_false]
    unfold Lib.decNat
    simp only [List.isEmpty_cons, Bool.false_eq_true, if_false]
    rw [decFrom_all _ _ h]
    rfl
/-- one group more: the nine digits ahead (or what is left) -/
theorem group_step (ds : List UInt8) (k lo hi : Nat) (h2 : lo ≤ hi) (h3 : ds.length - hi = 9 * k) :
    valD (ds.drop lo) = valD (ds.drop hi) + valD ((ds.drop lo).take (hi - lo)) * 1000000000 ^ k := by
  have e : ds.drop lo = (ds.drop lo).take (hi - lo) ++ ds.drop hi := by
    conv => lhs; rw [← List.take_append_drop (hi - lo) (ds.drop lo)]
    rw [List.drop_drop, show lo + (hi - lo) = hi by omega]
  conv => lhs; rw [e]
  rw [valD_append, List.length_drop, h3, show (1000000000 : Nat) = 10 ^ 9 from rfl, ← Nat.pow_mul]
  omega
/-- the code of a text -/
def bodyOf (l : List UInt8) : List UInt8 := if l.head? = some 45 then l.tail else l
def negOf (l : List UInt8) : Bool := decide (l.head? = some 45)
/-- a syntax error at the text's head: no digits, or a zero too many -/
def badHead (l : List UInt8) : Bool := (bodyOf l).isEmpty || (decide ((bodyOf l).head? = some 48) && (decide (1 < (bodyOf l).length) || negOf l))
def parseC (l : List UInt8) : Int := if 2001 < l.length then 9 else if badHead l then 8 else if (bodyOf l).all isDg = false then 8 else if 2000 < (bodyOf l).length then 9 else 0
def parseZ (l : List UInt8) : Int := if parseC l = 0 then (if negOf l then -(valD (bodyOf l) : Int) else (valD (bodyOf l) : Int)) else 0
theorem loop_len (d : ByteArray) : ∀ (n i : Nat) (r : List UInt8), d.size - i = n → (ByteArray.toList.loop d i r).length = r.length + n
  | 0, i, r, h => by
    rw [ByteArray.toList.loop, if_neg (by omega)]
    simp
  | n + 1, i, r, h => by
    rw [ByteArray.toList.loop, if_pos (by omega), loop_len d n (i + 1) _ (by omega), List.length_cons]
    omega
theorem toList_len (d : ByteArray) : d.toList.length = d.size := by
  unfold ByteArray.toList
  rw [loop_len d d.size 0 [] (by omega)]
  simp
theorem empty_yes (d : ByteArray) (h : d.size = 0) : d.toList.isEmpty = true := by
  rw [List.isEmpty_iff]; exact List.eq_nil_of_length_eq_zero (by rw [toList_len]; exact h)
theorem empty_no (d : ByteArray) (h : d.size ≠ 0) : d.toList.isEmpty = false := by
  rw [List.isEmpty_eq_false_iff]; intro e; exact h (by rw [← toList_len, e]; rfl)
end Go.Proofs.YtomjnjpehokjbaaGreatDoor

namespace Go.Proofs.YtomjnjpehokjbaaGreatDoor
open Go.RowKit Go.Shelf

variable {F : Fence} {n : Nat} {P : Program}

/-- the contract of an iterator that hands encs k to round number k, N rounds in all -/
def SeqIdx (F : Fence) (n : Nat) (P : Program) (g : Nat) (lb : Array Value) (encs : Nat → Array Value) (Kp : World → World → Prop) (N : Nat) (w : World) : Prop :=
  ∀ (l : Nat) (J Jx : Nat → World → Prop) (W : World), Below w.heap.size w W → AbidesFrom W.heap.size J → AbidesFrom W.heap.size Jx →
    (∀ k W1, J k W1 → k < N → YieldAt F (n - 1) P l (encs k) W1 fun e W' =>
      (e = .returned (.bool true) ∧ J (k + 1) W' ∧ Kp W1 W') ∨ (e = .returned (.bool false) ∧ Jx (k + 1) W')) →
    J 0 W →
    CallsIn F n P g (#[.func (.yield l) #[] #[]] ++ lb) W fun e W' => (∃ v, e = .returned v) ∧ (J N W' ∨ ∃ k, k ≤ N ∧ Jx k W')

/-- how round number k may be left -/
def idxPost (B : Nat) (Kp : World → World → Prop) (I : Nat → World → Prop) (Ix : Code → Nat → World → Prop) (k : Nat) (W : World) : Exit → Act → World → Prop
  | .normal, _, W' => KeepsFrom B W W' ∧ Kp W W' ∧ I (k + 1) W'
  | .ret, _, W' => KeepsFrom B W W' ∧ Ix .ret (k + 1) W'
  | .exit id, _, W' => KeepsFrom B W W' ∧ Ix (.exit id) (k + 1) W'
  | .goto t, _, W' => KeepsFrom B W W' ∧ Ix (.goto t) (k + 1) W'
  | .panic _, _, _ => False
  | .outgrown, _, _ => False

theorem wpIn_range_idx {g : Operand} {ps : Array Tmp} {assign body : Code} {Q : Exit → Act → World → Prop} {a : Act} {w : World}
    (hro : F.round = none) (h1 : 1 ≤ n) {gf : Nat} {lb : Array Value} (hg : a.eval g = .func (.func gf) #[] lb) (hFg : F.fn gf) (eg : ∀ args w, (callFunc gf args).run P w = .ok (.enter gf args) w)
    {encs : Nat → Array Value} {Kp : World → World → Prop} {N : Nat} {w0 : World} (hseq : SeqIdx F (n - 1) P gf lb encs Kp N w0)
    (hKt : ∀ {A B C : World}, Kp A B → Kp B C → Kp A C) (hKb : ∀ (W : World) (l : Nat) (o o' : Obj), w.heap.size ≤ l → W.heap[l]? = some o → o.isCells = false → o.isWalk = false → Kp W (W.putObj l o')) (hb0 : Below w0.heap.size w0 w) (hps : ∀ x, (encs x).size = ps.size)
    (I : Nat → World → Prop) (Ix : Code → Nat → World → Prop) (hI : OwnFrom w.heap.size I) (hIx : ∀ c, OwnFrom w.heap.size (Ix c)) (h0 : I 0 w) (a₁ : Nat → Act)
    (hassign : ∀ (l : Nat) (x : Nat) (W : World) (K : Act → World → Prop), K (a₁ x) W →
      assign.wpIn (F.inRound l) (n - 1 - 1) P (Exit.then K (fun _ _ _ => False)) { tmps := (ps.zip (encs x)).foldl (fun t (p, v) => t.setIfInBounds p v) a.tmps, defers := [] } W)
    (hbody : ∀ (l : Nat) (k : Nat) (W : World), I k W → k < N → body.wpIn (F.inRound l) (n - 1 - 1) P (idxPost w.heap.size Kp I Ix k W) (a₁ k) W)
    (hdone : ∀ (D : Nat) (W : World), w.heap.size ≤ D → I N W → W.heap[D]? = some (.deferred (some [])) → Q .normal { a with defers := { target := .collected D, args := #[] } :: a.defers } W)
    (hstop : ∀ (D : Nat) (c : Code) (k : Nat) (W : World), w.heap.size ≤ D → k ≤ N → Ix c k W → W.heap[D]? = some (.deferred (some [])) → c.wpIn F n P Q { a with defers := { target := .collected D, args := #[] } :: a.defers } W) :
    (Code.rangeFunc g ps assign body).wpIn F n P Q a w := by
  refine wpIn_rangeFunc ?_
  intro fn hfn
  rw [hro]
  -- the loop's record, and the world in which the iterator is called
  let rec_ : LoopState → Option Code → Loop := fun st pe => { state := st, pending := pe, fn, tmps := a.tmps, params := ps, assign, body, defers := w.heap.size }
  obtain ⟨rec, hrec⟩ : ∃ rec, rec = rec_ := ⟨_, rfl⟩
  obtain ⟨W1, hW1⟩ : ∃ W1, (w.alloc (.deferred (some []))).alloc (.loop (rec .ready none)) = W1 := ⟨_, rfl⟩
  have hsz : W1.heap.size = w.heap.size + 2 := by rw [← hW1]; simp
  have hL1 : W1.heap[w.heap.size + 1]? = some (.loop (rec .ready none)) := by
    rw [← hW1]; have := World.alloc_heap_new (w.alloc (.deferred (some []))) (.loop (rec .ready none)); rwa [World.size_alloc] at this
  have hK1 : W1.heap[w.heap.size]? = some (.deferred (some [])) := by
    rw [← hW1]; exact (Below.heap_alloc _ _ _ (by simp)).trans (World.alloc_heap_new w _)
  have hI1 : I 0 W1 := by rw [← hW1]; exact hI.alloc _ (hI.alloc _ h0)
  have hb1 : Below w0.heap.size w0 W1 := by
    rw [← hW1]; exact hb0.trans ((((Below.refl _ w).alloc (Nat.le_refl _) _).alloc (by simp) _).mono hb0.size)
  refine ⟨w.heap.size + 1, [{ target := .collected w.heap.size, args := #[] }], W1, { target := .fn (.func gf) lb, args := #[.func (.yield (w.heap.size + 1)) #[] #[]] }, W1, gf,
    #[.func (.yield (w.heap.size + 1)) #[] #[]] ++ lb, W1, ?enter, ?target, ?leads, ?invoke, fun _ => h1, ?call⟩
  case enter => rw [← hW1, hrec]; exact run_enterLoop_outer _ _ _ _ _
  case target =>
    simp only [resolve, hg]
    simp [go_sem]
  case leads => intro f' hf'; simp [Target.leads] at hf'; subst hf'; exact hFg
  case invoke => simp [invoke, go_sem, eg]
  case call =>
    have wide : ∀ {A : World} {row : Option Nat}, (∀ r, row = some r → W1.heap.size ≤ r ∧ ∃ o : Obj, A.heap[r]? = some o ∧ o.isWalk = true) → ∀ r, row = some r → w.heap.size ≤ r ∧ ∃ o : Obj, A.heap[r]? = some o ∧ o.isCells = false :=
      fun hr r e => by
        obtain ⟨hB, o, ho, hw⟩ := hr r e
        exact ⟨by omega, o, ho, Obj.not_cells_of_walk hw⟩
    refine (hseq (w.heap.size + 1)
      (fun k W => I k W ∧ W.heap[w.heap.size + 1]? = some (.loop (rec .ready none)) ∧ W.heap[w.heap.size]? = some (.deferred (some [])))
      (fun k W => ∃ c, Ix c k W ∧ W.heap[w.heap.size + 1]? = some (.loop (rec .done (some c))) ∧ W.heap[w.heap.size]? = some (.deferred (some [])))
      W1 hb1 ?ab1 ?ab2 ?rounds ⟨hI1, hL1, hK1⟩).mono ?after
    case ab1 =>
      rintro s A B row ⟨hs, hl, hd⟩ hg' hr
      exact ⟨hI s A B row hs hg' (wide hr), (grownBy_keeps hg' (fun r e => (hr r e).2) hl rfl).trans hl, (grownBy_keeps hg' (fun r e => (hr r e).2) hd rfl).trans hd⟩
    case ab2 =>
      rintro s A B row ⟨c, hs, hl, hd⟩ hg' hr
      exact ⟨c, hIx c s A B row hs hg' (wide hr), (grownBy_keeps hg' (fun r e => (hr r e).2) hl rfl).trans hl, (grownBy_keeps hg' (fun r e => (hr r e).2) hd rfl).trans hd⟩
    case rounds =>
      rintro k W ⟨hi, hl, hd⟩ hlt
      have hsW : w.heap.size + 1 < W.heap.size := (Array.getElem?_eq_some_iff.1 hl).1
      have hy := run_yield (P := P) (args := encs k) hl (by rw [hrec]; exact hps k)
      rw [hrec] at hy
      refine ⟨fn, _, assign, body, hy, roundIn_of_wpIn hfn (hassign _ k W _ ⟨_, run_beginRound hl (by rw [hrec]), ?_⟩)⟩
      have hl2 : (W.putObj (w.heap.size + 1) (.loop { rec .ready none with state := .busy })).heap[w.heap.size + 1]? = some (.loop { rec .ready none with state := .busy }) := World.putObj_heap_same hsW
      have hd2 : (W.putObj (w.heap.size + 1) (.loop { rec .ready none with state := .busy })).heap[w.heap.size]? = some (.deferred (some [])) := (World.putObj_heap_other (by omega)).trans hd
      have hkp : Kp W (W.putObj (w.heap.size + 1) (.loop { rec .ready none with state := .busy })) := hKb _ _ _ _ (by omega) hl rfl rfl
      refine wpIn_mono (hbody _ k _ (hI.putObj _ hi (by omega) hl rfl) hlt) ?_
      -- behind the body: the record is put back
      have back : ∀ (jump : Option Code) (W3 : World), KeepsFrom w.heap.size (W.putObj (w.heap.size + 1) (.loop { rec .ready none with state := .busy })) W3 →
          (Instr.endRound (w.heap.size + 1) jump).run P W3 = .ok (.bool jump.isNone) (W3.putObj (w.heap.size + 1) (.loop (rec (if jump.isNone then .ready else .done) jump))) ∧
          W3.heap[w.heap.size + 1]? = some (.loop { rec .ready none with state := .busy }) ∧
          (W3.putObj (w.heap.size + 1) (.loop (rec (if jump.isNone then .ready else .done) jump))).heap[w.heap.size + 1]? = some (.loop (rec (if jump.isNone then .ready else .done) jump)) ∧
          (W3.putObj (w.heap.size + 1) (.loop (rec (if jump.isNone then .ready else .done) jump))).heap[w.heap.size]? = some (.deferred (some [])) := fun jump W3 hk3 => by
        have hl3 := hk3.same _ _ (by omega) hl2 rfl
        have hrun := run_endRound (P := P) jump hl3
        rw [hrec] at hrun ⊢
        exact ⟨hrun, by rw [hrec] at hl3; exact hl3, World.putObj_heap_same (Array.getElem?_eq_some_iff.1 hl3).1, (World.putObj_heap_other (by omega)).trans (hk3.same _ _ (Nat.le_refl _) hd2 rfl)⟩
      intro e a3 W3 hp
      cases e with
      | normal =>
        obtain ⟨hk3, hkp3, hi3⟩ := hp
        obtain ⟨hr, hl3, hl4, hd4⟩ := back none W3 hk3
        exact ⟨_, _, hr, .inl ⟨rfl, ⟨hI.putObj _ hi3 (by omega) hl3 rfl, hl4, hd4⟩, hKt (hKt hkp hkp3) (hKb _ _ _ _ (by omega) hl3 rfl rfl)⟩⟩
      | ret =>
        obtain ⟨hr, hl3, hl4, hd4⟩ := back (some .ret) W3 hp.1
        exact ⟨_, _, hr, .inr ⟨rfl, .ret, (hIx _).putObj _ hp.2 (by omega) hl3 rfl, hl4, hd4⟩⟩
      | exit id =>
        obtain ⟨hr, hl3, hl4, hd4⟩ := back (some (.exit id)) W3 hp.1
        exact ⟨_, _, hr, .inr ⟨rfl, .exit id, (hIx _).putObj _ hp.2 (by omega) hl3 rfl, hl4, hd4⟩⟩
      | goto t =>
        obtain ⟨hr, hl3, hl4, hd4⟩ := back (some (.goto t)) W3 hp.1
        exact ⟨_, _, hr, .inr ⟨rfl, .goto t, (hIx _).putObj _ hp.2 (by omega) hl3 rfl, hl4, hd4⟩⟩
      | panic ch => exact hp.elim
      | outgrown => exact hp.elim
    case after =>
      rintro e W2 ⟨⟨v, rfl⟩, (⟨hi, hl, hd⟩ | ⟨k, hkN, c, hi, hl, hd⟩)⟩
      · exact ⟨none, _, by have := run_endLoop (P := P) hl (by rw [hrec]; simp [rec_]); rw [hrec] at this; exact this, hdone _ _ (Nat.le_refl _) (hI.putObj _ hi (by omega) hl rfl) ((World.putObj_heap_other (by omega)).trans hd)⟩
      · exact ⟨some c, _, by have := run_endLoop (P := P) hl (by rw [hrec]; simp [rec_]); rw [hrec] at this; exact this, hstop _ c k _ (Nat.le_refl _) hkN ((hIx c).putObj _ hi (by omega) hl rfl) ((World.putObj_heap_other (by omega)).trans hd)⟩

/-- a block of cells abides the loop's book-keeping -/
theorem Own.nc {A B : World} {row : Option Nat} {b : Nat} {t : TypeId} {vs : List Value} (h : Own A b t vs) (hg : A.grownBy B row) (hr : ∀ r, row = some r → ∃ o : Obj, A.heap[r]? = some o ∧ o.isCells = false) : Own B b t vs := by
  unfold Own at h ⊢
  rw [hg.block b (Array.getElem?_eq_some_iff.1 h).1 (fun e => by
    obtain ⟨o, ho, hc⟩ := hr b e.symm
    rw [h] at ho; cases ho; cases hc)]
  exact h
theorem Row.nc {A B : World} {row : Option Nat} {a : Option Addr} {m : Nat} {f : Nat → Value} (h : Row A a m f) (hg : A.grownBy B row) (hr : ∀ r, row = some r → ∃ o : Obj, A.heap[r]? = some o ∧ o.isCells = false) : Row B a m f := fun hn => by
  obtain ⟨b, o, e, hlt, hc⟩ := h hn
  refine ⟨b, o, e, Nat.lt_of_lt_of_le hlt hg.size, fun j hj => ?_⟩
  refine (World.cell?_of_block (hg.block b hlt fun e' => ?_)).trans (hc j hj)
  obtain ⟨ob, ho, hcl⟩ := hr b e'.symm
  have h0 := hc j hj
  unfold World.cell? at h0
  rw [ho] at h0
  cases ob <;> simp [Obj.isCells] at hcl h0
theorem U32.nc {A B : World} {row : Option Nat} {v : Value} {xs : List Nat} (h : U32 A v xs) (hg : A.grownBy B row) (hr : ∀ r, row = some r → ∃ o : Obj, A.heap[r]? = some o ∧ o.isCells = false) : U32 B v xs := by
  obtain ⟨a, c, rfl, h1, h2, h0, h3⟩ := h
  exact ⟨a, c, rfl, h1, h2, h0, h3.nc hg hr⟩
end Go.Proofs.YtomjnjpehokjbaaGreatDoor
