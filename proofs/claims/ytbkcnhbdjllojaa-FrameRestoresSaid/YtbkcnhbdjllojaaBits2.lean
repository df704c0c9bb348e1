/- Bits and Best: the walks. -/
import Derived.Test.YtbkcnhbdjllojaaBits
import Derived.Test.YtbkcnhbdjllojaaChk
namespace Go.Proofs.Ytbkcnhbdjllojaa
open Go.RowKit Go.Shelf

/-- the code of a row of residuals -/
def rowC (l : List Int) : Int := if 64 < l.length then 3 else if l.any (offM 65535) then 2 else 0
set_option maxRecDepth 100000 in
set_option maxHeartbeats 1000000 in
theorem checkRow_any {w : World} {A : Option Addr} {c : Nat} {l : List Int} (hr : IRow w A l) (hl : l.length ≤ maxLen) :
    Calls Try.prog 63 #[.slice A l.length c] w fun e w' => e = .returned (.int .i64 (rowC l)) ∧ w' = w := by
  have hlI : (l.length : Int) ≤ 9223372036854775807 := by simp only [maxLen] at hl; omega
  by_cases t1 : 64 < l.length
  · have HF := Lib.hid (show rowC l = 3 from if_pos t1)
    clear hr
    go_enter Try.func63, Try.ntmps63
    go_wp2
    go_ret
    exact ⟨by rw [HF.out]; rfl, rfl⟩
  have HF : Hid (l.any (offM 65535) = true → rowC l = 2) := Lib.hid fun h => by rw [rowC, if_neg t1, if_pos h]
  have HT : Hid (l.any (offM 65535) = false → rowC l = 0) := Lib.hid fun h => by rw [rowC, if_neg t1, h]; rfl
  have HR := Lib.hid hr
  clear hr
  go_enter Try.func63, Try.ntmps63
  go_wp2
  go_loop [10] (fun i => ∃ k : Nat, k ≤ l.length ∧ i = .int .i64 (k : Nat) ∧ Hid ((l.take k).any (offM 65535) = false)) (fun i => l.length - (intOf i).toNat)
  case atStart => exact ⟨0, Nat.zero_le _, rfl, Lib.hid (by simp)⟩
  case round =>
    obtain ⟨k, hkd, rfl, HN⟩ := hrel
    by_cases hlt : k < l.length
    · obtain ⟨b, o, rfl, c1⟩ := IRow.at HR.out (j := k) (by omega)
      have HY : Hid (offM 65535 (l.getD k 0) = true → l.any (offM 65535) = true) := Lib.hid (any_yes hlt)
      have HZ : Hid (offM 65535 (l.getD k 0) = false → (l.take (k + 1)).any (offM 65535) = false) := Lib.hid (any_snoc_no hlt HN.out)
      generalize l.getD k 0 = x at *
      by_cases s1 : x < 0
      · have HT2 := Lib.hid (HF.out (HY.out (by unfold offM; simp [s1])))
        have e1 : decide (x < 0) = true := decide_eq_true s1
        go_wp2
        go_ret
        exact ⟨by rw [HT2.out]; rfl, rfl⟩
      have e1 : decide (x < 0) = false := decide_eq_false s1
      by_cases s2 : 65535 < x
      · have e2 : decide (65535 < x) = true := decide_eq_true s2
        have HT2 := Lib.hid (HF.out (HY.out (by unfold offM; simp [s2])))
        go_wp2
        go_ret
        exact ⟨by rw [HT2.out]; rfl, rfl⟩
      have e2 : decide (65535 < x) = false := decide_eq_false s2
      have HT2 := Lib.hid (HZ.out (by unfold offM; simp; omega))
      go_wp2
      go_round
      case rel => exact ⟨k + 1, by omega, by go_num, HT2⟩
      case measure => simp [intOf]; omega
    · obtain rfl : k = l.length := by omega
      have HT2 := Lib.hid (HT.out (by have := HN.out; rwa [List.take_of_length_le (Nat.le_refl _)] at this))
      go_wp2
      go_ret
      exact ⟨by rw [HT2.out]; rfl, rfl⟩
theorem rowC_0 {l : List Int} (h : rowC l = 0) : l.length ≤ 64 ∧ Grey 65535 l := by
  unfold rowC at h
  split at h
  · cases h
  · split at h
    · cases h
    · rename_i h1 h2
      exact ⟨by omega, off_any.1 (by simpa using h2)⟩
theorem results_tmp3 {fn : Func} {i j l : Tmp} (h : fn.results = #[.tmp i, .tmp j, .tmp l]) (tmps : Array Value) (P : Program) (w : World) :
    (results fn tmps).run P w = .ok (.tuple #[tmps.getD i undef, tmps.getD j undef, tmps.getD l undef]) w := by
  simp [results, h, go_sem]
set_option maxRecDepth 100000 in
set_option maxHeartbeats 1000000 in
theorem fBest_any {w : World} {A : Option Addr} {c : Nat} {l : List Int} (hr : IRow w A l) (hl : l.length ≤ maxLen) :
    Calls Try.prog 33 #[.slice A l.length c] w fun e w' => e = .returned (if rowC l = 0 then .tuple #[.int .i64 (bestI l : Nat), .int .i64 (totI l (bestI l)), .int .i64 0] else .tuple #[.int .i64 0, .int .i64 0, .int .i64 (rowC l)]) ∧ w' = w := by
  have HC := Lib.hid (checkRow_any (c := c) hr hl)
  have HR := Lib.hid hr
  clear hr
  obtain ⟨r, hrr⟩ : ∃ r, rowC l = r := ⟨_, rfl⟩
  rw [hrr] at HC ⊢
  by_cases h0 : r = 0
  · subst h0
    obtain ⟨h1, h2⟩ := rowC_0 hrr
    have HB := Lib.hid (best_any (c := c) HR.out (by omega) h2)
    clear hrr h2
    generalize bestI l = a at *
    generalize totI l a = t at *
    rw [if_pos rfl]
    go_enter Try.func33, Try.ntmps33
    go_wp2_with fail
    refine HC.out.mono ?_
    rintro e w1 ⟨rfl, rfl⟩
    go_wp2_with fail
    refine HB.out.mono ?_
    rintro e w1 ⟨rfl, rfl⟩
    go_wp2
    refine bodyPost_ret (results_tmp3 rfl _ _ _) rfl ?_
    exact ⟨rfl, rfl⟩
  · rw [if_neg h0]
    have hn : (r != 0) = true := by simpa using h0
    clear hrr
    go_enter Try.func33, Try.ntmps33
    go_wp2_with fail
    refine HC.out.mono ?_
    rintro e w1 ⟨rfl, rfl⟩
    go_wp2
    refine bodyPost_ret (results_tmp3 rfl _ _ _) rfl ?_
    exact ⟨rfl, rfl⟩
def bitsC (l : List Int) (k : Int) : Int := if k < 0 ∨ 16 < k then 2 else rowC l
set_option maxRecDepth 100000 in
set_option maxHeartbeats 1000000 in
theorem fBits_any {w : World} {A : Option Addr} {c : Nat} {l : List Int} (hr : IRow w A l) (hl : l.length ≤ maxLen) (k : Int) :
    Calls Try.prog 32 #[.slice A l.length c, .int .i64 k] w fun e w' => e = .returned (.tuple #[.int .i64 (if bitsC l k = 0 then totI l k.toNat else 0), .int .i64 (bitsC l k)]) ∧ w' = w := by
  have HC := Lib.hid (checkRow_any (c := c) hr hl)
  have HR := Lib.hid hr
  clear hr
  by_cases t1 : k < 0
  · have HF := Lib.hid (show bitsC l k = 2 from if_pos (by omega))
    have e1 : decide (k < 0) = true := decide_eq_true t1
    rw [HF.out]
    go_enter Try.func32, Try.ntmps32
    go_wp2
    go_ret2
    exact ⟨rfl, rfl⟩
  have e1 : decide (k < 0) = false := decide_eq_false t1
  by_cases t2 : 16 < k
  · have HF := Lib.hid (show bitsC l k = 2 from if_pos (by omega))
    have e2 : decide (16 < k) = true := decide_eq_true t2
    rw [HF.out]
    go_enter Try.func32, Try.ntmps32
    go_wp2
    go_ret2
    exact ⟨rfl, rfl⟩
  have e2 : decide (16 < k) = false := decide_eq_false t2
  rw [show bitsC l k = rowC l from if_neg (by omega)]
  obtain ⟨n, rfl⟩ : ∃ n : Nat, k = n := ⟨k.toNat, by omega⟩
  obtain ⟨r, hrr⟩ : ∃ r, rowC l = r := ⟨_, rfl⟩
  rw [hrr] at HC ⊢
  by_cases h0 : r = 0
  · subst h0
    obtain ⟨h1, h2⟩ := rowC_0 hrr
    have HB := Lib.hid (total_any (c := c) HR.out (by omega) h2 n (by omega))
    rw [if_pos rfl, Int.toNat_natCast]
    clear hrr h2
    generalize totI l n = t at *
    go_enter Try.func32, Try.ntmps32
    go_wp2_with fail
    refine HC.out.mono ?_
    rintro e w1 ⟨rfl, rfl⟩
    go_wp2_with fail
    refine HB.out.mono ?_
    rintro e w1 ⟨rfl, rfl⟩
    go_wp2
    go_ret2
    exact ⟨rfl, rfl⟩
  · rw [if_neg h0]
    have hn : (r != 0) = true := by simpa using h0
    clear hrr
    go_enter Try.func32, Try.ntmps32
    go_wp2_with fail
    refine HC.out.mono ?_
    rintro e w1 ⟨rfl, rfl⟩
    go_wp2
    go_ret2
    exact ⟨rfl, rfl⟩
end Go.Proofs.Ytbkcnhbdjllojaa
