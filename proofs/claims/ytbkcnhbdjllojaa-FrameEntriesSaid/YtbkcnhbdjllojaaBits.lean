/- The lengths of codes and the best parameter: the walks. -/
import Derived.Test.YtbkcnhbdjllojaaResid
namespace Go.Proofs.Ytbkcnhbdjllojaa
open Go.RowKit Go.Shelf

/-- the length of a code -/
def codeLen (k : Nat) (v : Int) : Int := v / 2 ^ k + 1 + k
def totI (l : List Int) (k : Nat) : Int := l.foldl (fun n v => n + codeLen k v) 0
theorem totI_snoc (l : List Int) (v : Int) (k : Nat) : totI (l ++ [v]) k = totI l k + codeLen k v := by simp [totI]
theorem codeLen_le {k : Nat} {v : Int} (h0 : 0 ≤ v) (h1 : v ≤ 65535) (hk : k ≤ 16) : 1 ≤ codeLen k v ∧ codeLen k v ≤ 65552 := by
  unfold codeLen
  have hp : (0 : Int) < 2 ^ k := Int.pow_pos (by omega)
  have h2 := Int.ediv_nonneg h0 (Int.le_of_lt hp)
  have h3 : v / 2 ^ k ≤ v := Int.ediv_le_self _ h0
  omega
theorem totI_le {l : List Int} (h : Grey 65535 l) {k : Nat} (hk : k ≤ 16) : ∀ j, j ≤ l.length → (j : Int) ≤ totI (l.take j) k ∧ totI (l.take j) k ≤ j * 65552
  | 0, _ => by simp [totI]
  | j + 1, hj => by
    have h1 := totI_le h hk j (by omega)
    have h2 := h l[j] (List.getElem_mem _)
    have h3 := codeLen_le h2.1 h2.2 hk
    rw [List.take_succ_eq_append_getElem (by omega), totI_snoc]
    push_cast
    omega
set_option maxRecDepth 100000 in
set_option maxHeartbeats 1000000 in
theorem total_any {w : World} {A : Option Addr} {c : Nat} {l : List Int} (hr : IRow w A l) (hl : l.length ≤ 4096) (hg : Grey 65535 l) (k : Nat) (hk : k ≤ 16) :
    Calls Try.prog 64 #[.slice A l.length c, .int .i64 (k : Nat)] w fun e w' => e = .returned (.int .i64 (totI l k)) ∧ w' = w := by
  have hlI : (l.length : Int) ≤ 4096 := by omega
  have hkI : (k : Int) ≤ 16 := by omega
  have HG := Lib.hid hg
  have HR := Lib.hid hr
  clear hg hr
  go_enter Try.func64, Try.ntmps64
  go_wp2
  go_loop [10, 5] (fun i s => ∃ j : Nat, j ≤ l.length ∧ i = .int .i64 (j : Nat) ∧ s = .int .i64 (totI (l.take j) k)) (fun i _ => l.length - (intOf i).toNat)
  case atStart => exact ⟨0, Nat.zero_le _, rfl, by simp [totI]⟩
  case round =>
    obtain ⟨j, hjd, rfl, rfl⟩ := hrel
    by_cases hlt : j < l.length
    · obtain ⟨b, o, rfl, c1⟩ := IRow.at HR.out (j := j) (by omega)
      have hx := HG.out.get (by omega) j
      have hs := totI_le HG.out hk j (by omega)
      have hs1 : totI (l.take (j + 1)) k = totI (l.take j) k + codeLen k (l.getD j 0) := by
        rw [List.take_succ_eq_append_getElem hlt, totI_snoc]
        simp [List.getD, hlt]
      generalize l.getD j 0 = x at *
      generalize totI (l.take j) k = s at *
      have HS := Lib.hid hs1
      have hcl := codeLen_le hx.1 hx.2 hk
      have hpow : (0 : Int) ≤ x / 2 ^ k ∧ x / 2 ^ k ≤ x := ⟨Int.ediv_nonneg hx.1 (Int.le_of_lt (Int.pow_pos (by omega))), Int.ediv_le_self _ hx.1⟩
      clear hs1
      go_wp2
      go_round
      case rel => exact ⟨j + 1, by omega, by go_num, by rw [HS.out, codeLen]⟩
      case measure => simp [intOf]; omega
    · obtain rfl : j = l.length := by omega
      have HE := Lib.hid (show totI (l.take l.length) k = totI l k by rw [List.take_of_length_le (Nat.le_refl _)])
      go_wp2
      go_ret
      exact ⟨by rw [← HE.out]; rfl, rfl⟩
set_option maxRecDepth 100000 in
set_option maxHeartbeats 1000000 in
theorem lbits_any {w : World} {A : Option Addr} {c : Nat} {l : List Int} (hr : IRow w A l) (hl : l.length ≤ 4096) (hg : Grey 65535 l) (k : Nat) (hk : k ≤ 16) :
    Calls Try.prog 35 #[.slice A l.length c, .int .i64 (k : Nat)] w fun e w' => e = .returned (.int .i64 (totI l k)) ∧ w' = w := by
  have hlI : (l.length : Int) ≤ 4096 := by omega
  have hkI : (k : Int) ≤ 16 := by omega
  have HG := Lib.hid hg
  have HR := Lib.hid hr
  clear hg hr
  go_enter Try.func35, Try.ntmps35
  go_wp2
  go_loop [10, 5] (fun i s => ∃ j : Nat, j ≤ l.length ∧ i = .int .i64 (j : Nat) ∧ s = .int .i64 (totI (l.take j) k)) (fun i _ => l.length - (intOf i).toNat)
  case atStart => exact ⟨0, Nat.zero_le _, rfl, by simp [totI]⟩
  case round =>
    obtain ⟨j, hjd, rfl, rfl⟩ := hrel
    by_cases hlt : j < l.length
    · obtain ⟨b, o, rfl, c1⟩ := IRow.at HR.out (j := j) (by omega)
      have hx := HG.out.get (by omega) j
      have hs := totI_le HG.out hk j (by omega)
      have hs1 : totI (l.take (j + 1)) k = totI (l.take j) k + codeLen k (l.getD j 0) := by
        rw [List.take_succ_eq_append_getElem hlt, totI_snoc]
        simp [List.getD, hlt]
      generalize l.getD j 0 = x at *
      generalize totI (l.take j) k = s at *
      have HS := Lib.hid hs1
      have hcl := codeLen_le hx.1 hx.2 hk
      have hpow : (0 : Int) ≤ x / 2 ^ k ∧ x / 2 ^ k ≤ x := ⟨Int.ediv_nonneg hx.1 (Int.le_of_lt (Int.pow_pos (by omega))), Int.ediv_le_self _ hx.1⟩
      clear hs1
      go_wp2
      go_round
      case rel => exact ⟨j + 1, by omega, by go_num, by rw [HS.out, codeLen]⟩
      case measure => simp [intOf]; omega
    · obtain rfl : j = l.length := by omega
      have HE := Lib.hid (show totI (l.take l.length) k = totI l k by rw [List.take_of_length_le (Nat.le_refl _)])
      go_wp2
      go_ret
      exact ⟨by rw [← HE.out]; rfl, rfl⟩

/-- the parameter among the first n that is best -/
def bestU (l : List Int) : Nat → Nat
  | 0 => 0
  | n + 1 => if totI l n < totI l (bestU l n) then n else bestU l n
def bestI (l : List Int) : Nat := bestU l 17
theorem bestU_le (l : List Int) : ∀ n, bestU l n ≤ n - 1
  | 0 => by simp [bestU]
  | n + 1 => by
    have := bestU_le l n
    unfold bestU
    split <;> omega
theorem totI_all {l : List Int} (h : Grey 65535 l) {k : Nat} (hk : k ≤ 16) : (l.length : Int) ≤ totI l k ∧ totI l k ≤ l.length * 65552 := by
  have := totI_le h hk l.length (Nat.le_refl _)
  rwa [List.take_of_length_le (Nat.le_refl _)] at this
theorem totI_ix {l : List Int} (h : Grey 65535 l) (hl : l.length ≤ 4096) {k : Nat} (hk : k ≤ 16) : 0 ≤ totI l k ∧ totI l k ≤ 268500992 := by
  have := totI_all h hk
  omega
set_option maxRecDepth 100000 in
set_option maxHeartbeats 1000000 in
theorem best_any {w : World} {A : Option Addr} {c : Nat} {l : List Int} (hr : IRow w A l) (hl : l.length ≤ 4096) (hg : Grey 65535 l) :
    Calls Try.prog 55 #[.slice A l.length c] w fun e w' => e = .returned (.tuple #[.int .i64 (bestI l : Nat), .int .i64 (totI l (bestI l))]) ∧ w' = w := by
  have HG := Lib.hid hg
  have HR := Lib.hid hr
  clear hg hr
  go_enter Try.func55, Try.ntmps55
  go_wp2_with fail
  refine (total_any (c := c) HR.out hl HG.out 0 (by omega)).mono ?_
  rintro e w1 ⟨rfl, rfl⟩
  go_wp2
  go_loop [6, 4, 5] (fun i a s => ∃ j : Nat, 1 ≤ j ∧ j ≤ 17 ∧ i = .int .i64 (j : Nat) ∧ a = .int .i64 (bestU l j : Nat) ∧ s = .int .i64 (totI l (bestU l j))) (fun i _ _ => 17 - (intOf i).toNat)
  case atStart => exact ⟨1, by omega, by omega, rfl, by simp [bestU], by simp [bestU]⟩
  case round =>
    obtain ⟨j, hj1, hjd, rfl, rfl, rfl⟩ := hrel
    by_cases hlt : j < 17
    · have h1 := totI_ix HG.out hl (k := j) (by omega)
      have h2 := totI_ix HG.out hl (k := bestU l j) (by have := bestU_le l j; omega)
      have h3 := bestU_le l j
      have HB := Lib.hid (show bestU l (j + 1) = if totI l j < totI l (bestU l j) then j else bestU l j from rfl)
      have HT := Lib.hid (total_any (c := c) HR.out hl HG.out j (by omega))
      obtain ⟨x, hx⟩ : ∃ x, totI l j = x := ⟨_, rfl⟩
      obtain ⟨y, hy⟩ : ∃ y, totI l (bestU l j) = y := ⟨_, rfl⟩
      rw [hx] at h1 HB HT
      rw [hy] at h2 HB
      have HX := Lib.hid hx
      have HY := Lib.hid hy
      rw [hy]
      clear hx hy
      generalize bestU l j = a at *
      by_cases t : x < y
      · rw [if_pos t] at HB
        go_wp2_with fail
        refine HT.out.mono ?_
        rintro e w1 ⟨rfl, rfl⟩
        go_wp2
        go_round
        case rel => exact ⟨j + 1, by omega, by omega, by go_num, by rw [HB.out], by rw [HB.out, HX.out]⟩
        case measure => simp [intOf]; omega
      · rw [if_neg t] at HB
        go_wp2_with fail
        refine HT.out.mono ?_
        rintro e w1 ⟨rfl, rfl⟩
        go_wp2
        go_round
        case rel => exact ⟨j + 1, by omega, by omega, by go_num, by rw [HB.out], by rw [HB.out, HY.out]⟩
        case measure => simp [intOf]; omega
    · obtain rfl : j = 17 := by omega
      go_wp2
      go_ret2
      exact ⟨rfl, rfl⟩
set_option maxRecDepth 100000 in
set_option maxHeartbeats 1000000 in
theorem lbest_any {w : World} {A : Option Addr} {c : Nat} {l : List Int} (hr : IRow w A l) (hl : l.length ≤ 4096) (hg : Grey 65535 l) :
    Calls Try.prog 36 #[.slice A l.length c] w fun e w' => e = .returned (.int .i64 (bestI l : Nat)) ∧ w' = w := by
  have HG := Lib.hid hg
  have HR := Lib.hid hr
  clear hg hr
  go_enter Try.func36, Try.ntmps36
  go_wp2
  go_loop [5, 3] (fun i a => ∃ j : Nat, j ≤ 17 ∧ i = .int .i64 (j : Nat) ∧ a = .int .i64 (bestU l j : Nat)) (fun i _ => 17 - (intOf i).toNat)
  case atStart => exact ⟨0, by omega, rfl, by simp [bestU]⟩
  case round =>
    obtain ⟨j, hjd, rfl, rfl⟩ := hrel
    by_cases hlt : j < 17
    · have h3 := bestU_le l j
      have h1 := totI_ix HG.out hl (k := j) (by omega)
      have h2 := totI_ix HG.out hl (k := bestU l j) (by omega)
      have HB := Lib.hid (show bestU l (j + 1) = if totI l j < totI l (bestU l j) then j else bestU l j from rfl)
      have HT := Lib.hid (lbits_any (c := c) HR.out hl HG.out j (by omega))
      have HT2 := Lib.hid (lbits_any (c := c) HR.out hl HG.out (bestU l j) (by omega))
      generalize bestU l j = a at *
      generalize totI l j = x at *
      generalize totI l a = y at *
      by_cases t : x < y
      · rw [if_pos t] at HB
        go_wp2_with fail
        refine HT.out.mono ?_
        rintro e w1 ⟨rfl, rfl⟩
        go_wp2_with fail
        refine HT2.out.mono ?_
        rintro e w1 ⟨rfl, rfl⟩
        go_wp2
        go_round
        case rel => exact ⟨j + 1, by omega, by go_num, by rw [HB.out]⟩
        case measure => simp [intOf]; omega
      · rw [if_neg t] at HB
        go_wp2_with fail
        refine HT.out.mono ?_
        rintro e w1 ⟨rfl, rfl⟩
        go_wp2_with fail
        refine HT2.out.mono ?_
        rintro e w1 ⟨rfl, rfl⟩
        go_wp2
        go_round
        case rel => exact ⟨j + 1, by omega, by go_num, by rw [HB.out]⟩
        case measure => simp [intOf]; omega
    · obtain rfl : j = 17 := by omega
      go_wp2
      go_ret
      exact ⟨rfl, rfl⟩
end Go.Proofs.Ytbkcnhbdjllojaa
