/- The insertion sort of corners: the walk. -/
import Derived.Test.YtecibfncnaccjaaTOff
namespace Go.Proofs.Ytecibfncnaccjaa
open Go.RowKit Go.Shelf
abbrev Cn := Int × Int × Int
def cc (a : Cn) : List Value := [.int .i64 a.1, .int .i64 a.2.1, .int .i64 a.2.2]
def cellsC (l : List Cn) : List Value := l.flatMap cc
def cz0 : Cn := (0, 0, 0)
theorem cellsC_cons (a : Cn) (l : List Cn) : cellsC (a :: l) = cc a ++ cellsC l := rfl
theorem cellsC_length (l : List Cn) : (cellsC l).length = l.length * 3 := by
  induction l with
  | nil => rfl
  | cons a l ih => rw [cellsC, List.flatMap_cons, List.length_append, ← cellsC, ih, List.length_cons]; simp [cc]; omega
theorem cellsC_get (l : List Cn) (rest : List Value) {j t : Nat} (hj : j < l.length) (ht : t < 3) : (cellsC l ++ rest)[j * 3 + t]? = (cc (l.getD j cz0))[t]? := by
  induction l generalizing j with
  | nil => cases hj
  | cons a l ih =>
    rw [cellsC, List.flatMap_cons, List.append_assoc, ← cellsC]
    cases j with
    | zero =>
      rw [Nat.zero_mul, Nat.zero_add, List.getElem?_append_left (by simp [cc]; omega)]
      rfl
    | succ j =>
      rw [List.getElem?_append_right (by simp [cc]; omega), show (j + 1) * 3 + t - (cc a).length = j * 3 + t by simp [cc]; omega, ih (by simpa using hj)]
      rfl
theorem cellsC_set (l : List Cn) (rest : List Value) {j : Nat} (hj : j < l.length) (a : Cn) :
    ((((cellsC l ++ rest).set (j * 3) (.int .i64 a.1)).set (j * 3 + 1) (.int .i64 a.2.1)).set (j * 3 + 2) (.int .i64 a.2.2)) = cellsC (l.set j a) ++ rest := by
  induction l generalizing j with
  | nil => cases hj
  | cons b l ih =>
    cases j with
    | zero => rfl
    | succ j =>
      have h := ih (j := j) (by simpa using hj)
      rw [show (b :: l).set (j + 1) a = b :: l.set j a from rfl, cellsC_cons, cellsC_cons, List.append_assoc, List.append_assoc, ← h]
      rw [List.set_append_right _ _ (by simp [cc]; omega), List.set_append_right _ _ (by simp [cc]; omega), List.set_append_right _ _ (by simp [cc]; omega)]
      simp only [cc, List.length_cons, List.length_nil]
      rw [show (j + 1) * 3 - (0 + 1 + 1 + 1) = j * 3 by omega, show (j + 1) * 3 + 1 - (0 + 1 + 1 + 1) = j * 3 + 1 by omega, show (j + 1) * 3 + 2 - (0 + 1 + 1 + 1) = j * 3 + 2 by omega]
/-- one element sinks to its place -/
def bub : Nat → List Cn → List Cn
  | 0, l => l
  | j + 1, l => if (l.getD j cz0).2.2 < (l.getD (j + 1) cz0).2.2 then bub j ((l.set (j + 1) (l.getD j cz0)).set j (l.getD (j + 1) cz0)) else l
def srt : Nat → List Cn → List Cn
  | 0, l => l
  | k + 1, l => bub k (srt k l)
theorem bub_length : ∀ (j : Nat) (l : List Cn), (bub j l).length = l.length
  | 0, l => rfl
  | j + 1, l => by
    rw [bub]
    split
    · rw [bub_length j]; simp
    · rfl
theorem srt_length : ∀ (k : Nat) (l : List Cn), (srt k l).length = l.length
  | 0, l => rfl
  | k + 1, l => by rw [srt, bub_length, srt_length k l]
theorem isnan_any (w : World) (x : Int) : Calls Try.prog 29 #[.int .i64 x] w fun e w' => e = .returned (.bool false) ∧ w' = w := by
  have h : (x != x) = false := by simp
  go_enter Try.func29, Try.ntmps29
  go_wp2
  go_ret
  exact ⟨by first | rfl | simp, rfl⟩
def cmpI (x y : Int) : Int := if x < y then -1 else if y < x then 1 else 0
set_option maxRecDepth 100000 in
theorem ccompare_any (w : World) (x y : Int) : Calls Try.prog 20 #[.int .i64 x, .int .i64 y] w fun e w' => e = .returned (.int .i64 (cmpI x y)) ∧ w' = w := by
  have HN := Lib.hid (isnan_any w x)
  have HM := Lib.hid (isnan_any w y)
  have HC : Hid (cmpI x y = if x < y then -1 else if y < x then 1 else 0) := Lib.hid rfl
  have h3 : x < y ∨ y < x ∨ x = y := by omega
  rcases h3 with h | h | h
  · have t1 : decide (x < y) = true := decide_eq_true h
    rw [if_pos h] at HC
    go_enter Try.func20, Try.ntmps20
    go_wp2_with fail
    refine HN.out.mono ?_
    rintro e w1 ⟨rfl, hw⟩
    obtain rfl : w = w1 := hw.symm
    go_wp2_with fail
    refine HM.out.mono ?_
    rintro e w1 ⟨rfl, hw⟩
    obtain rfl : w = w1 := hw.symm
    go_wp2
    go_ret
    exact ⟨by rw [HC.out]; rfl, rfl⟩
  · have t1 : decide (x < y) = false := decide_eq_false (by omega)
    have t2 : decide (y < x) = true := decide_eq_true h
    rw [if_neg (by omega), if_pos h] at HC
    go_enter Try.func20, Try.ntmps20
    go_wp2_with fail
    refine HN.out.mono ?_
    rintro e w1 ⟨rfl, hw⟩
    obtain rfl : w = w1 := hw.symm
    go_wp2_with fail
    refine HM.out.mono ?_
    rintro e w1 ⟨rfl, hw⟩
    obtain rfl : w = w1 := hw.symm
    go_wp2
    go_ret
    exact ⟨by rw [HC.out]; rfl, rfl⟩
  · have t1 : decide (x < y) = false := decide_eq_false (by omega)
    have t2 : decide (y < x) = false := decide_eq_false (by omega)
    rw [if_neg (by omega), if_neg (by omega)] at HC
    clear h
    go_enter Try.func20, Try.ntmps20
    go_wp2_with fail
    refine HN.out.mono ?_
    rintro e w1 ⟨rfl, hw⟩
    obtain rfl : w = w1 := hw.symm
    go_wp2_with fail
    refine HM.out.mono ?_
    rintro e w1 ⟨rfl, hw⟩
    obtain rfl : w = w1 := hw.symm
    go_wp2
    go_ret
    exact ⟨by rw [HC.out]; rfl, rfl⟩
set_option maxRecDepth 100000 in
theorem find2_any (w : World) (a1 a2 a3 b1 b2 b3 : Int) : Calls Try.prog 19 #[.agg #[.int .i64 a1, .int .i64 a2, .int .i64 a3], .agg #[.int .i64 b1, .int .i64 b2, .int .i64 b3]] w fun e w' => e = .returned (.int .i64 (cmpI b3 a3)) ∧ Keeps w w' := by
  obtain ⟨W1, hW1⟩ : ∃ W1, (w.alloc (.cells #[.int .i64 a1, .int .i64 a2, .int .i64 a3] 39)).alloc (.cells #[.int .i64 b1, .int .i64 b2, .int .i64 b3] 39) = W1 := ⟨_, rfl⟩
  have hk1 : Keeps w W1 := hW1 ▸ keep2 w _ _
  have p1 : Own W1 w.heap.size 39 [.int .i64 a1, .int .i64 a2, .int .i64 a3] := hW1 ▸ (Own.new w _ _).alloc _
  have q1 : Own W1 (w.heap.size + 1) 39 [.int .i64 b1, .int .i64 b2, .int .i64 b3] := hW1 ▸ own2 w _ _ _
  have HC := Lib.hid (ccompare_any W1 b3 a3)
  have x2 := p1.cell 2
  have y2 := q1.cell 2
  simp only [List.getElem?_cons_zero, List.getElem?_cons_succ] at x2 y2
  go_enter Try.func19, Try.ntmps19
  go_wp2_with fail
  refine HC.out.mono ?_
  rintro e w1 ⟨rfl, rfl⟩
  go_wp2
  go_ret
  exact ⟨rfl, hk1⟩
end Go.Proofs.Ytecibfncnaccjaa
