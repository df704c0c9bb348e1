/- Numbers in groups of nine decimal digits: plain arithmetic, no program in sight. -/
namespace Go.Proofs.Ytecibfncnaccjaa

/-- the number of a list of groups, the least one first -/
def val : List Nat → Nat
  | [] => 0
  | x :: r => x + 1000000000 * val r
/-- the group with an index, 0 behind the end -/
def ix (xs : List Nat) (j : Nat) : Nat := xs.getD j 0
def AllB (xs : List Nat) : Prop := ∀ x ∈ xs, x < 1000000000
/-- a list without zeros at the end -/
def trimL : List Nat → List Nat
  | [] => []
  | x :: r => match trimL r with
    | [] => if x = 0 then [] else [x]
    | y :: s => x :: y :: s
/-- the groups of a number -/
def dig (n : Nat) : List Nat := if _h : n = 0 then [] else n % 1000000000 :: dig (n / 1000000000)
termination_by n
decreasing_by omega

theorem ix_nil (j : Nat) : ix [] j = 0 := by simp [ix]
theorem ix_zero (x : Nat) (r : List Nat) : ix (x :: r) 0 = x := rfl
theorem ix_succ (x : Nat) (r : List Nat) (j : Nat) : ix (x :: r) (j + 1) = ix r j := by simp [ix]
theorem ix_get (xs : List Nat) (j : Nat) (h : j < xs.length) : ix xs j = xs[j] := by simp [ix, h]
theorem ix_past (xs : List Nat) (j : Nat) (h : xs.length ≤ j) : ix xs j = 0 := by simp [ix, h]
theorem ix_set (xs : List Nat) (k v j : Nat) (h : k < xs.length) : ix (xs.set k v) j = if j = k then v else ix xs j := by
  unfold ix; simp only [List.getD_eq_getElem?_getD, List.getElem?_set]
  by_cases e : k = j
  · subst e; simp [h]
  · rw [if_neg e, if_neg (Ne.symm e)]
theorem ix_append_left (xs ys : List Nat) (j : Nat) (h : j < xs.length) : ix (xs ++ ys) j = ix xs j := by
  simp [ix, List.getElem?_append_left h]
theorem ix_append_at (xs : List Nat) (y : Nat) : ix (xs ++ [y]) xs.length = y := by simp [ix]
theorem ix_take (xs : List Nat) (k j : Nat) (h : j < k) : ix (xs.take k) j = ix xs j := by
  simp [ix, h]
theorem ix_drop (xs : List Nat) (k j : Nat) : ix (xs.drop k) j = ix xs (k + j) := by simp [ix]
theorem take_snoc (xs : List Nat) (k : Nat) (h : k < xs.length) : xs.take (k + 1) = xs.take k ++ [ix xs k] := by
  rw [List.take_succ_eq_append_getElem h, ix_get xs k h]
theorem drop_cons (xs : List Nat) (k : Nat) (h : k < xs.length) : xs.drop k = ix xs k :: xs.drop (k + 1) := by
  rw [List.drop_eq_getElem_cons h, ix_get xs k h]
theorem ext_ix (xs ys : List Nat) (hl : xs.length = ys.length) (h : ∀ j, j < xs.length → ix xs j = ix ys j) : xs = ys := by
  apply List.ext_getElem hl
  intro i h1 h2
  have := h i h1
  rwa [ix_get _ _ h1, ix_get _ _ h2] at this

theorem AllB.nil : AllB [] := by intro x h; cases h
theorem AllB.cons {x : Nat} {r : List Nat} (h : x < 1000000000) (hr : AllB r) : AllB (x :: r) := by
  intro y hy; cases hy with
  | head => exact h
  | tail _ hy => exact hr y hy
theorem AllB.head {x : Nat} {r : List Nat} (h : AllB (x :: r)) : x < 1000000000 := h x (List.mem_cons_self ..)
theorem AllB.tail {x : Nat} {r : List Nat} (h : AllB (x :: r)) : AllB r := fun y hy => h y (List.mem_cons_of_mem _ hy)
theorem AllB.ix {xs : List Nat} (h : AllB xs) (j : Nat) : ix xs j < 1000000000 := by
  rcases Nat.lt_or_ge j xs.length with hj | hj
  · rw [ix_get xs j hj]; exact h _ (List.getElem_mem hj)
  · rw [ix_past xs j hj]; omega
theorem AllB.of_ix {xs : List Nat} (h : ∀ j, j < xs.length → Go.Proofs.Ytecibfncnaccjaa.ix xs j < 1000000000) : AllB xs := by
  intro x hx
  obtain ⟨j, hj, rfl⟩ := List.getElem_of_mem hx
  rw [← ix_get xs j hj]; exact h j hj
theorem AllB.append {xs ys : List Nat} (h : AllB xs) (h' : AllB ys) : AllB (xs ++ ys) := by
  intro x hx; rcases List.mem_append.1 hx with k | k
  · exact h x k
  · exact h' x k
theorem AllB.take {xs : List Nat} (h : AllB xs) (k : Nat) : AllB (xs.take k) := fun x hx => h x (List.mem_of_mem_take hx)
theorem AllB.drop {xs : List Nat} (h : AllB xs) (k : Nat) : AllB (xs.drop k) := fun x hx => h x (List.mem_of_mem_drop hx)
theorem AllB.set {xs : List Nat} (h : AllB xs) (k v : Nat) (hv : v < 1000000000) : AllB (xs.set k v) := by
  intro x hx
  rcases List.mem_or_eq_of_mem_set hx with hx | rfl
  · exact h x hx
  · exact hv
theorem AllB.replicate (n : Nat) : AllB (List.replicate n 0) := by
  intro x hx; have := List.eq_of_mem_replicate hx; omega
theorem AllB.single {x : Nat} (h : x < 1000000000) : AllB [x] := AllB.cons h AllB.nil

theorem val_take_succ (xs : List Nat) (i : Nat) : val (xs.take (i + 1)) = val (xs.take i) + ix xs i * 1000000000 ^ i := by
  induction i generalizing xs with
  | zero => cases xs <;> simp [val, ix]
  | succ i ih =>
    cases xs with
    | nil => simp [val, ix]
    | cons x r =>
      simp only [List.take_succ_cons, val, ix_succ]
      rw [ih]
      grind
theorem val_set (xs : List Nat) (k v : Nat) (hk : k < xs.length) : val (xs.set k v) + ix xs k * 1000000000 ^ k = val xs + v * 1000000000 ^ k := by
  induction xs generalizing k with
  | nil => simp at hk
  | cons x r ih =>
    cases k with
    | zero => simp [val, ix]; omega
    | succ k =>
      have := ih k (by simpa using hk)
      simp only [List.set_cons_succ, val, ix_succ]
      grind
theorem val_append (xs ys : List Nat) : val (xs ++ ys) = val xs + 1000000000 ^ xs.length * val ys := by
  induction xs with
  | nil => simp [val]
  | cons x r ih => simp only [List.cons_append, val, ih, List.length_cons]; grind
theorem val_snoc (xs : List Nat) (y : Nat) : val (xs ++ [y]) = val xs + y * 1000000000 ^ xs.length := by
  rw [val_append]; simp [val]; grind
theorem val_replicate (n : Nat) : val (List.replicate n 0) = 0 := by
  induction n with
  | zero => rfl
  | succ n ih => simp [List.replicate_succ, val, ih]
theorem val_lt {xs : List Nat} (h : AllB xs) : val xs < 1000000000 ^ xs.length := by
  induction xs with
  | nil => simp [val]
  | cons x r ih =>
    have h1 := ih h.tail
    have h2 := h.head
    simp only [val, List.length_cons, Nat.pow_succ]
    omega
theorem val_take_le (xs : List Nat) (k : Nat) : val (xs.take k) ≤ val xs := by
  induction xs generalizing k with
  | nil => simp [val]
  | cons x r ih =>
    cases k with
    | zero => simp [val]
    | succ k => have := ih k; simp only [List.take_succ_cons, val]; omega
theorem val_drop (xs : List Nat) (k : Nat) (h : k < xs.length) : val (xs.drop k) = ix xs k + 1000000000 * val (xs.drop (k + 1)) := by
  rw [drop_cons xs k h]; rfl
theorem val_split (xs : List Nat) (k : Nat) (h : k ≤ xs.length) : val xs = val (xs.take k) + 1000000000 ^ k * val (xs.drop k) := by
  have := val_append (xs.take k) (xs.drop k)
  rw [List.take_append_drop] at this
  rw [this, List.length_take, Nat.min_eq_left h]

theorem dig_zero : dig 0 = [] := by unfold dig; simp
theorem dig_pos {n : Nat} (h : n ≠ 0) : dig n = n % 1000000000 :: dig (n / 1000000000) := by
  rw [dig]; simp [h]
theorem val_dig (n : Nat) : val (dig n) = n := by
  induction n using Nat.strongRecOn with
  | ind n ih =>
    by_cases h : n = 0
    · subst h; rw [dig_zero]; rfl
    · rw [dig_pos h, val, ih _ (by omega)]; omega
theorem AllB.dig (n : Nat) : AllB (dig n) := by
  induction n using Nat.strongRecOn with
  | ind n ih =>
    by_cases h : n = 0
    · subst h; rw [dig_zero]; exact AllB.nil
    · rw [dig_pos h]; exact AllB.cons (by omega) (ih _ (by omega))
theorem dig_eq_nil {n : Nat} : dig n = [] ↔ n = 0 := by
  constructor
  · intro h; have := val_dig n; rw [h] at this; exact this.symm
  · rintro rfl; exact dig_zero
theorem dig_length_pos {n : Nat} : 0 < (dig n).length ↔ n ≠ 0 := by
  rw [List.length_pos_iff]; exact not_congr dig_eq_nil
theorem dig_length_zero {n : Nat} : (dig n).length = 0 ↔ n = 0 := by
  rw [List.length_eq_zero_iff]; exact dig_eq_nil
theorem dig_inj {m n : Nat} (h : dig m = dig n) : m = n := by
  rw [← val_dig m, ← val_dig n, h]
theorem trimL_dig (n : Nat) : trimL (dig n) = dig n := by
  induction n using Nat.strongRecOn with
  | ind n ih =>
    by_cases h : n = 0
    · subst h; rw [dig_zero]; rfl
    · rw [dig_pos h, trimL, ih _ (by omega)]
      by_cases h2 : n / 1000000000 = 0
      · rw [h2, dig_zero]; simp only; rw [if_neg (by omega)]
      · rw [dig_pos h2]
theorem val_trimL (xs : List Nat) : val (trimL xs) = val xs := by
  induction xs with
  | nil => rfl
  | cons x r ih =>
    simp only [trimL]
    split
    · next h => rw [h] at ih; simp only [val] at ih ⊢; split <;> simp_all [val] <;> omega
    · next y s h => rw [h] at ih; simp only [val] at ih ⊢; omega
theorem trimL_eq {xs : List Nat} (h : AllB xs) : trimL xs = dig (val xs) := by
  induction xs with
  | nil => simp [trimL, val, dig_zero]
  | cons x r ih =>
    have h1 := ih h.tail
    have h2 := h.head
    simp only [trimL, h1, val]
    by_cases hr : val r = 0
    · rw [hr, dig_zero]
      by_cases hx : x = 0
      · subst hx; simp [dig_zero]
      · simp only [if_neg hx]
        rw [dig_pos (by omega), show (x + 1000000000 * 0) / 1000000000 = 0 by omega, dig_zero]
        congr 1; omega
    · rw [dig_pos (n := x + 1000000000 * val r) (by omega), show (x + 1000000000 * val r) / 1000000000 = val r by omega,
        show (x + 1000000000 * val r) % 1000000000 = x by omega]
      cases hd : dig (val r) with
      | nil => exact absurd (dig_eq_nil.1 hd) hr
      | cons y s => rfl
theorem trimL_snoc_zero (xs : List Nat) : trimL (xs ++ [0]) = trimL xs := by
  induction xs with
  | nil => rfl
  | cons x r ih => simp [trimL, ih]
theorem trimL_snoc (xs : List Nat) (d : Nat) (h : d ≠ 0) : trimL (xs ++ [d]) = xs ++ [d] := by
  induction xs with
  | nil => simp [trimL, h]
  | cons x r ih =>
    simp only [List.cons_append, trimL, ih]
    cases r <;> rfl
theorem trimL_length_le (xs : List Nat) : (trimL xs).length ≤ xs.length := by
  induction xs with
  | nil => simp [trimL]
  | cons x r ih =>
    simp only [trimL]
    split
    · split <;> simp
    · next y s h => rw [h] at ih; simpa using ih
theorem trimL_take (xs : List Nat) : trimL xs = xs.take (trimL xs).length := by
  induction xs with
  | nil => rfl
  | cons x r ih =>
    simp only [trimL]
    split
    · split <;> simp
    · next y s h => rw [h] at ih; simp only [List.length_cons, List.take_succ_cons] at ih ⊢; rw [← ih]
theorem trimL_of_last {xs : List Nat} (h : ∀ (_ : 0 < xs.length), ix xs (xs.length - 1) ≠ 0) : trimL xs = xs := by
  rcases List.eq_nil_or_concat xs with rfl | ⟨ys, y, rfl⟩
  · rfl
  · have := h (by simp)
    simp only [List.concat_eq_append] at *
    refine trimL_snoc ys y ?_
    simpa [ix] using this
theorem dig_last {n : Nat} (h : n ≠ 0) : ix (dig n) ((dig n).length - 1) ≠ 0 := by
  intro h0
  have hp := dig_length_pos.2 h
  have e : dig n = (dig n).take ((dig n).length - 1) ++ [0] := by
    have := take_snoc (dig n) ((dig n).length - 1) (by omega)
    rw [show (dig n).length - 1 + 1 = (dig n).length by omega, List.take_length, h0] at this
    exact this
  have t := trimL_dig n
  rw [e, trimL_snoc_zero] at t
  have l := trimL_length_le ((dig n).take ((dig n).length - 1))
  rw [t] at l
  simp at l
  omega
theorem dig_of {xs : List Nat} (h : AllB xs) (hl : ∀ (_ : 0 < xs.length), ix xs (xs.length - 1) ≠ 0) : dig (val xs) = xs := by
  rw [← trimL_eq h, trimL_of_last hl]
theorem dig_length_le {n k : Nat} (h : n < 1000000000 ^ k) : (dig n).length ≤ k := by
  induction k generalizing n with
  | zero => rw [show n = 0 by simpa using h, dig_zero]; simp
  | succ k ih =>
    by_cases h0 : n = 0
    · subst h0; rw [dig_zero]; simp
    · rw [dig_pos h0, List.length_cons]
      have := ih (n := n / 1000000000) (by rw [Nat.pow_succ] at h; omega)
      omega
theorem dig_lt (n : Nat) : n < 1000000000 ^ (dig n).length := by
  have := val_lt (AllB.dig n)
  rwa [val_dig] at this
theorem dig_length_mono {m n : Nat} (h : m ≤ n) : (dig m).length ≤ (dig n).length :=
  dig_length_le (Nat.lt_of_le_of_lt h (dig_lt n))
theorem dig_ge {n : Nat} (h : n ≠ 0) : 1000000000 ^ ((dig n).length - 1) ≤ n := by
  rcases Nat.lt_or_ge n (1000000000 ^ ((dig n).length - 1)) with hl | hl
  · have := dig_length_le hl
    have := dig_length_pos.2 h
    omega
  · exact hl
theorem dig_length_add (m n : Nat) : (dig (m + n)).length ≤ max (dig m).length (dig n).length + 1 := by
  apply dig_length_le
  have h1 := dig_lt m
  have h2 := dig_lt n
  have h3 : 1000000000 ^ (dig m).length ≤ 1000000000 ^ max (dig m).length (dig n).length := Nat.pow_le_pow_right (by omega) (by omega)
  have h4 : 1000000000 ^ (dig n).length ≤ 1000000000 ^ max (dig m).length (dig n).length := Nat.pow_le_pow_right (by omega) (by omega)
  rw [Nat.pow_succ]
  omega
theorem dig_length_mul (m n : Nat) : (dig (m * n)).length ≤ (dig m).length + (dig n).length := by
  apply dig_length_le
  rw [Nat.pow_add]
  have h1 := dig_lt m
  have h2 := dig_lt n
  exact Nat.mul_lt_mul_of_lt_of_lt h1 h2
theorem dig_small {n : Nat} (h : n ≠ 0) (h2 : n < 1000000000) : dig n = [n] := by
  rw [dig_pos h, show n / 1000000000 = 0 by omega, dig_zero, show n % 1000000000 = n by omega]

theorem take_set_self (xs : List Nat) (k v : Nat) : (xs.set k v).take k = xs.take k := by
  rw [List.take_set_of_le (Nat.le_refl _)]
theorem val_put (xs : List Nat) (k v : Nat) (h : k < xs.length) : val ((xs.set k v).take (k + 1)) = val (xs.take k) + v * 1000000000 ^ k := by
  rw [val_take_succ, take_set_self, ix_set xs k v k h, if_pos rfl]
theorem plus_step (xs ys out : List Nat) (k cc s c : Nat) (hk : k < out.length) (hv : val (out.take k) + cc * 1000000000 ^ k = val (xs.take k) + val (ys.take k))
    (e : s + c * 1000000000 = ix xs k + ix ys k + cc) :
    val ((out.set k s).take (k + 1)) + c * 1000000000 ^ (k + 1) = val (xs.take (k + 1)) + val (ys.take (k + 1)) := by
  rw [val_put out k s hk, val_take_succ xs, val_take_succ ys]
  have : (s + c * 1000000000) * 1000000000 ^ k = (ix xs k + ix ys k + cc) * 1000000000 ^ k := by rw [e]
  grind
theorem plus_done (xs ys out : List Nat) (N cc : Nat) (h : out.length = N) (h1 : xs.length + 1 ≤ N) (h2 : ys.length + 1 ≤ N) (hx : AllB xs) (hy : AllB ys)
    (hv : val (out.take N) + cc * 1000000000 ^ N = val (xs.take N) + val (ys.take N)) : val out = val xs + val ys := by
  rw [List.take_of_length_le (by omega), List.take_of_length_le (by omega), List.take_of_length_le (by omega)] at hv
  have a := val_lt hx
  have b := val_lt hy
  obtain ⟨M, rfl⟩ : ∃ M, N = M + 1 := ⟨N - 1, by omega⟩
  have a' : 1000000000 ^ xs.length ≤ 1000000000 ^ M := Nat.pow_le_pow_right (by omega) (by omega)
  have b' : 1000000000 ^ ys.length ≤ 1000000000 ^ M := Nat.pow_le_pow_right (by omega) (by omega)
  rw [Nat.pow_succ] at hv
  cases cc with
  | zero => omega
  | succ c =>
    have : (c + 1) * (1000000000 ^ M * 1000000000) = c * (1000000000 ^ M * 1000000000) + 1000000000 ^ M * 1000000000 := by grind
    have : 0 ≤ c * (1000000000 ^ M * 1000000000) := Nat.zero_le _
    omega
theorem minus_step (xs ys out : List Nat) (k cc s c : Nat) (hk : k < out.length) (hv : val (out.take k) + val (ys.take k) = val (xs.take k) + cc * 1000000000 ^ k)
    (e : s + ix ys k + cc = ix xs k + c * 1000000000) :
    val ((out.set k s).take (k + 1)) + val (ys.take (k + 1)) = val (xs.take (k + 1)) + c * 1000000000 ^ (k + 1) := by
  rw [val_put out k s hk, val_take_succ xs, val_take_succ ys]
  have : (s + ix ys k + cc) * 1000000000 ^ k = (ix xs k + c * 1000000000) * 1000000000 ^ k := by rw [e]
  grind
theorem minus_done (xs ys out : List Nat) (cc : Nat) (h : out.length = xs.length) (ho : AllB out) (hx : AllB xs) (hc : cc ≤ 1) (hl : ys.length ≤ xs.length) (hle : val ys ≤ val xs)
    (hv : val (out.take xs.length) + val (ys.take xs.length) = val (xs.take xs.length) + cc * 1000000000 ^ xs.length) : val out = val xs - val ys := by
  rw [List.take_of_length_le (by omega), List.take_of_length_le (by omega), List.take_of_length_le (by omega)] at hv
  have a := val_lt ho
  have b := val_lt hx
  rw [h] at a
  have : cc = 0 ∨ cc = 1 := by omega
  rcases this with rfl | rfl
  · omega
  · omega
theorem length_le_of_val {xs ys : List Nat} (hx : AllB xs) (hy : ∀ (_ : 0 < ys.length), ix ys (ys.length - 1) ≠ 0) (hb : AllB ys) (h : val ys ≤ val xs) : ys.length ≤ xs.length := by
  rw [← dig_of hb hy]
  exact dig_length_le (Nat.lt_of_le_of_lt h (val_lt hx))
/-- one group more of a product: the inner loop's step -/
theorem times_step (out : List Nat) (k s o c c' p q R : Nat) (hk : k < out.length) (ho : ix out k = o) (hv : val out + c * 1000000000 ^ k = R) (e : s + c' * 1000000000 = o + p * q + c) :
    val (out.set k s) + c' * 1000000000 ^ (k + 1) = R + p * q * 1000000000 ^ k := by
  have h := val_set out k s hk
  rw [ho] at h
  have : (s + c' * 1000000000) * 1000000000 ^ k = (o + p * q + c) * 1000000000 ^ k := by rw [e]
  grind
theorem val_lt_of {xs ys : List Nat} (hx : AllB xs) (i : Nat) (hi : i < xs.length) (hl : xs.length = ys.length) (hd : xs.drop (i + 1) = ys.drop (i + 1)) (h : ix xs i < ix ys i) : val xs < val ys := by
  rw [val_split xs (i + 1) (by omega), val_split ys (i + 1) (by omega), hd, val_take_succ, val_take_succ]
  have h1 := val_lt (hx.take i)
  rw [List.length_take, Nat.min_eq_left (by omega)] at h1
  have h2 : (ix xs i + 1) * 1000000000 ^ i ≤ ix ys i * 1000000000 ^ i := Nat.mul_le_mul_right _ h
  have h3 : (ix xs i + 1) * 1000000000 ^ i = ix xs i * 1000000000 ^ i + 1000000000 ^ i := by grind
  omega
theorem dig_lt_of_length {a b : Nat} (h : (dig a).length < (dig b).length) : a < b := by
  rcases Nat.lt_or_ge a b with h1 | h1
  · exact h1
  · have := dig_length_mono h1
    omega
theorem dig_cmp_at (a b i : Nat) (hl : (dig a).length = (dig b).length) (hi : i < (dig a).length) (hd : (dig a).drop (i + 1) = (dig b).drop (i + 1)) (hne : ix (dig a) i ≠ ix (dig b) i) :
    ((a : Int) - b).sign = ((ix (dig a) i : Int) - ix (dig b) i).sign := by
  rcases Nat.lt_or_gt_of_ne hne with h | h
  · have := val_lt_of (AllB.dig a) i hi hl hd h
    rw [val_dig, val_dig] at this
    rw [Int.sign_eq_neg_one_of_neg (by omega), Int.sign_eq_neg_one_of_neg (by omega)]
  · have := val_lt_of (AllB.dig b) i (by omega) hl.symm hd.symm h
    rw [val_dig, val_dig] at this
    rw [Int.sign_eq_one_of_pos (by omega), Int.sign_eq_one_of_pos (by omega)]
theorem mul_lt_base (p q : Nat) (hp : p < 1000000000) (hq : q < 1000000000) : p * q ≤ 999999998000000001 := by
  have := Nat.mul_le_mul (show p ≤ 999999999 by omega) (show q ≤ 999999999 by omega)
  omega
/-- the inner loop's step, with the rest of the outer one -/
theorem times_in (xs ys out : List Nat) (k j c s c' : Nat) (hk : k + j < out.length)
    (hv : val out + c * 1000000000 ^ (k + j) = val (xs.take k) * val ys + ix xs k * val (ys.take j) * 1000000000 ^ k)
    (e : s + c' * 1000000000 = ix out (k + j) + ix xs k * ix ys j + c) :
    val (out.set (k + j) s) + c' * 1000000000 ^ (k + (j + 1)) = val (xs.take k) * val ys + ix xs k * val (ys.take (j + 1)) * 1000000000 ^ k := by
  have h := times_step out (k + j) s _ c c' _ _ _ hk rfl hv e
  rw [val_take_succ ys, show k + (j + 1) = k + j + 1 by omega, h, Nat.pow_add]
  grind
theorem times_out (xs ys out : List Nat) (k c : Nat) (hk : k + ys.length < out.length) (h0 : ix out (k + ys.length) = 0)
    (hv : val out + c * 1000000000 ^ (k + ys.length) = val (xs.take k) * val ys + ix xs k * val (ys.take ys.length) * 1000000000 ^ k) :
    val (out.set (k + ys.length) c) = val (xs.take (k + 1)) * val ys := by
  have h := val_set out (k + ys.length) c hk
  rw [h0] at h
  rw [List.take_length] at hv
  rw [val_take_succ xs]
  grind
end Go.Proofs.Ytecibfncnaccjaa
