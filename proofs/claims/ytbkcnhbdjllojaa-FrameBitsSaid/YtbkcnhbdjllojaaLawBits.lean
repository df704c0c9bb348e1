/- FrameBits: the walk. -/
import Derived.Test.YtbkcnhbdjllojaaLEq
import Derived.Test.YtbkcnhbdjllojaaBits2
namespace Go.Proofs.Ytbkcnhbdjllojaa
open Go.RowKit Go.Shelf
attribute [local go_sem] Oper.semAt_some
set_option maxRecDepth 100000 in
set_option maxHeartbeats 1000000 in
theorem fb_i {w : World} {A : Option Addr} {c : Nat} {px : List Int} (hr : IRow w A px) (hl : px.length ≤ maxLen) (p : Int → Bool) (hp : Says Try.prog 34 #[] p w) :
    Calls Try.prog 62 #[.slice A px.length c, .func (.func 34) #[] #[]] w fun e w' => ∃ v : Int, e = .returned (.int .i64 v) ∧ decide (0 ≤ v) = px.any p ∧ Keeps w w' := by
  have hlI : (px.length : Int) ≤ 9223372036854775807 := by simp only [maxLen] at hl; omega
  have HP : Hid (Says Try.prog 34 #[] p w) := Lib.hid hp
  have HR := Lib.hid hr
  clear hr hp
  go_enter Try.func62, Try.ntmps62
  go_wp2
  go_loopw [8] (fun i wr => ∃ k : Nat, k ≤ px.length ∧ i = .int .i64 (k : Nat) ∧ Hid ((px.take k).any p = false) ∧ Keeps w wr) (fun i _ => px.length - (intOf i).toNat)
  case atStart => exact ⟨0, Nat.zero_le _, rfl, Lib.hid (by simp), Below.refl _ _⟩
  case round =>
    obtain ⟨k, hkd, rfl, HN, hk⟩ := hrel
    by_cases hlt : k < px.length
    · obtain ⟨b, o, rfl, c1⟩ := IRow.at (HR.out.below hk) (j := k) (by omega)
      have HS := Lib.hid (HP.out wr hk (px.getD k 0))
      have HY : Hid (p (px.getD k 0) = true → px.any p = true) := Lib.hid (any_yes hlt)
      have HZ : Hid (p (px.getD k 0) = false → (px.take (k + 1)).any p = false) := Lib.hid (any_snoc_no hlt HN.out)
      generalize px.getD k 0 = x at *
      go_wp2_with fail
      refine HS.out.mono ?_
      rintro e w1 ⟨rfl, hk1⟩
      cases hpx : p x with
      | true =>
        have HT := Lib.hid (HY.out hpx)
        clear hpx
        go_wp2
        go_ret
        exact ⟨_, rfl, by rw [HT.out]; simp, hk.trans' hk1⟩
      | false =>
        have HT := Lib.hid (HZ.out hpx)
        clear hpx
        go_wp2
        go_roundw
        case rel => exact ⟨k + 1, by omega, by go_num, HT, hk.trans' hk1⟩
        case measure => simp [intOf]; omega
    · obtain rfl : k = px.length := by omega
      go_wp2
      go_ret
      exact ⟨_, rfl, by have := HN.out; rw [List.take_of_length_le (Nat.le_refl _)] at this; rw [this]; rfl, hk⟩
set_option maxRecDepth 100000 in
theorem fb_c {w : World} {A : Option Addr} {c : Nat} {px : List Int} (hr : IRow w A px) (hl : px.length ≤ maxLen) (p : Int → Bool) (hp : Says Try.prog 34 #[] p w) :
    Calls Try.prog 28 #[.slice A px.length c, .func (.func 34) #[] #[]] w fun e w' => e = .returned (.bool (px.any p)) ∧ Keeps w w' := by
  have HI := Lib.hid (fb_i (c := c) hr hl p hp)
  clear hr hp
  go_enter Try.func28, Try.ntmps28
  go_wp2_with fail
  refine HI.out.mono ?_
  rintro e w1 ⟨v, rfl, hv, hk⟩
  have HV := Lib.hid hv
  clear hv
  go_wp2
  all_goals (go_ret; exact ⟨by rw [← HV.out]; rfl, hk⟩)
set_option maxRecDepth 100000 in
theorem offB (w : World) : Says Try.prog 34 #[] (offM 65535) w := fun u hk x => by
  show Calls Try.prog 34 #[.int .i64 x] u _
  by_cases t1 : x < 0
  · have HF := Lib.hid (show offM 65535 x = true by unfold offM; simp [t1])
    go_enter Try.func34, Try.ntmps34
    go_wp2
    all_goals (go_ret; exact ⟨by rw [HF.out]; rfl, Below.refl _ _⟩)
  · by_cases t2 : 65535 < x
    · have HF := Lib.hid (show offM 65535 x = true by unfold offM; simp [t2])
      go_enter Try.func34, Try.ntmps34
      go_wp2
      all_goals (go_ret; exact ⟨by rw [HF.out]; first | rfl | (simp; omega), Below.refl _ _⟩)
    · have HF := Lib.hid (show offM 65535 x = false by unfold offM; simp; omega)
      go_enter Try.func34, Try.ntmps34
      go_wp2
      all_goals (go_ret; exact ⟨by rw [HF.out]; first | rfl | (simp; omega), Below.refl _ _⟩)
set_option maxRecDepth 100000 in
set_option maxHeartbeats 1000000 in
theorem frameBits_any {w : World} {A : Option Addr} {c : Nat} {l : List Int} (hr : IRow w A l) (hl : l.length ≤ maxLen) (_ : ∀ x ∈ l, -9223372036854775808 ≤ x ∧ x ≤ 9223372036854775807) (k : Int) (hk : -9223372036854775808 ≤ k ∧ k ≤ 9223372036854775807) :
    Calls Try.prog 10 #[.slice A l.length c, .int .i64 k] w fun e w' => e = .returned (.bool true) ∧ Keeps w w' := by
  have HK := Lib.hid (known_any w)
  have HR := Lib.hid hr
  have hlI : (l.length : Int) ≤ 9223372036854775807 := by simp only [maxLen] at hl; omega
  clear hr
  go_enter Try.func10, Try.ntmps10
  go_wp2_with fail
  refine HK.out.mono ?_
  rintro e w1 ⟨rfl, hk1⟩
  by_cases hlen : 100 < l.length
  · have hlenI : (100 : Int) < l.length := by omega
    go_wp2
    go_ret
    exact ⟨rfl, hk1⟩
  have hlenI : ¬ ((100 : Int) < l.length) := by omega
  have HB := Lib.hid (fBits_any (c := c) (HR.out.below hk1) hl k)
  have HT := Lib.hid (fBest_any (c := c) (HR.out.below hk1) hl)
  by_cases h64 : 64 < l.length
  · have h64I : (64 : Int) < l.length := by omega
    have hrc : rowC l = 3 := by rw [rowC, if_pos h64]
    rw [hrc, if_neg (by decide)] at HT
    by_cases k0 : k < 0
    · have d0 : decide (k < 0) = true := decide_eq_true k0
      have hbc : bitsC l k = 2 := if_pos (.inl k0)
      rw [hbc, if_neg (by decide)] at HB
      clear hbc
      go_wp2_with fail
      refine HB.out.mono ?_
      rintro e w2 ⟨rfl, rfl⟩
      go_wp2_with fail
      refine HT.out.mono ?_
      rintro e w3 ⟨rfl, rfl⟩
      go_wp2
      go_ret
      exact ⟨rfl, hk1⟩
    · have d0 : decide (k < 0) = false := decide_eq_false k0
      by_cases k1 : 16 < k
      · have d1 : decide (16 < k) = true := decide_eq_true k1
        have hbc : bitsC l k = 2 := if_pos (.inr k1)
        rw [hbc, if_neg (by decide)] at HB
        clear hbc
        go_wp2_with fail
        refine HB.out.mono ?_
        rintro e w2 ⟨rfl, rfl⟩
        go_wp2_with fail
        refine HT.out.mono ?_
        rintro e w3 ⟨rfl, rfl⟩
        go_wp2
        go_ret
        exact ⟨rfl, hk1⟩
      · have d1 : decide (16 < k) = false := decide_eq_false k1
        have hbc : bitsC l k = 3 := by rw [bitsC, if_neg (by omega), hrc]
        rw [hbc, if_neg (by decide)] at HB
        clear hbc
        go_wp2_with fail
        refine HB.out.mono ?_
        rintro e w2 ⟨rfl, rfl⟩
        go_wp2_with fail
        refine HT.out.mono ?_
        rintro e w3 ⟨rfl, rfl⟩
        go_wp2
        go_ret
        exact ⟨rfl, hk1⟩
  have h64I : ¬ ((64 : Int) < l.length) := by omega
  have HC := Lib.hid (fb_c (c := c) (HR.out.below hk1) hl _ (offB w1))
  cases ha : l.any (offM 65535) with
  | true =>
    have hrc : rowC l = 2 := by rw [rowC, if_neg h64, if_pos ha]
    rw [hrc, if_neg (by decide)] at HT
    rw [ha] at HC
    clear ha
    by_cases k0 : k < 0
    · have d0 : decide (k < 0) = true := decide_eq_true k0
      have hbc : bitsC l k = 2 := if_pos (.inl k0)
      rw [hbc, if_neg (by decide)] at HB
      clear hbc
      go_wp2_with fail
      refine HB.out.mono ?_
      rintro e w2 ⟨rfl, rfl⟩
      go_wp2_with fail
      refine HT.out.mono ?_
      rintro e w3 ⟨rfl, rfl⟩
      go_wp2_with fail
      refine HC.out.mono ?_
      rintro e w4 ⟨rfl, hk4⟩
      go_wp2
      go_ret
      exact ⟨rfl, hk1.trans' hk4⟩
    · have d0 : decide (k < 0) = false := decide_eq_false k0
      by_cases k1 : 16 < k
      · have d1 : decide (16 < k) = true := decide_eq_true k1
        have hbc : bitsC l k = 2 := if_pos (.inr k1)
        rw [hbc, if_neg (by decide)] at HB
        clear hbc
        go_wp2_with fail
        refine HB.out.mono ?_
        rintro e w2 ⟨rfl, rfl⟩
        go_wp2_with fail
        refine HT.out.mono ?_
        rintro e w3 ⟨rfl, rfl⟩
        go_wp2_with fail
        refine HC.out.mono ?_
        rintro e w4 ⟨rfl, hk4⟩
        go_wp2
        go_ret
        exact ⟨rfl, hk1.trans' hk4⟩
      · have d1 : decide (16 < k) = false := decide_eq_false k1
        have hbc : bitsC l k = 2 := by rw [bitsC, if_neg (by omega), hrc]
        rw [hbc, if_neg (by decide)] at HB
        clear hbc
        go_wp2_with fail
        refine HB.out.mono ?_
        rintro e w2 ⟨rfl, rfl⟩
        go_wp2_with fail
        refine HT.out.mono ?_
        rintro e w3 ⟨rfl, rfl⟩
        go_wp2_with fail
        refine HC.out.mono ?_
        rintro e w4 ⟨rfl, hk4⟩
        go_wp2
        go_ret
        exact ⟨rfl, hk1.trans' hk4⟩
  | false =>
    have hrc : rowC l = 0 := by rw [rowC, if_neg h64, if_neg (by rw [ha]; decide)]
    obtain ⟨h4, hg⟩ := rowC_0 hrc
    rw [if_pos hrc] at HT
    rw [ha] at HC
    clear ha
    have hb17 : bestI l ≤ 16 := bestU_le l 17
    have HLB := fun u (hk : Keeps w u) => Lib.hid (lbest_any (c := c) (HR.out.below hk) (by omega) hg)
    have HLT := fun u (hk : Keeps w u) => Lib.hid (lbits_any (c := c) (HR.out.below hk) (by omega) hg (bestI l) hb17)
    have HLK := fun u (hk : Keeps w u) (k : Nat) (hk16 : k ≤ 16) => Lib.hid (lbits_any (c := c) (HR.out.below hk) (by omega) hg k hk16)
    have HMIN : Hid (∀ k : Nat, k ≤ 16 → totI l (bestI l) ≤ totI l k) := Lib.hid fun k hk => bestU_min l 17 k (by omega)
    clear hg
    by_cases k0 : k < 0 ∨ 16 < k
    · have hbc : bitsC l k = 2 := if_pos k0
      rw [hbc, if_neg (by decide)] at HB
      generalize totI l (bestI l) = T at *
      generalize bestI l = b at *
      clear hrc hbc
      by_cases k1 : k < 0
      · have d0 : decide (k < 0) = true := decide_eq_true k1
        clear k0
        go_wp2_with fail
        refine HB.out.mono ?_
        rintro e w2 ⟨rfl, rfl⟩
        go_wp2_with fail
        refine HT.out.mono ?_
        rintro e w3 ⟨rfl, rfl⟩
        go_wp2_with fail
        refine HC.out.mono ?_
        rintro e w4 ⟨rfl, hk4⟩
        have hkw := hk1.trans' hk4
        have HB1 := HLB _ hkw
        have HT1 := HLT _ hkw
        go_wp2_with fail
        refine HB1.out.mono ?_
        rintro e w5 ⟨rfl, rfl⟩
        go_wp2_with fail
        refine HT1.out.mono ?_
        rintro e w6 ⟨rfl, rfl⟩
        go_wp2
        go_ret
        exact ⟨rfl, hkw⟩
      · have d0 : decide (k < 0) = false := decide_eq_false k1
        have k2 : 16 < k := by omega
        have d1 : decide (16 < k) = true := decide_eq_true k2
        clear k0
        go_wp2_with fail
        refine HB.out.mono ?_
        rintro e w2 ⟨rfl, rfl⟩
        go_wp2_with fail
        refine HT.out.mono ?_
        rintro e w3 ⟨rfl, rfl⟩
        go_wp2_with fail
        refine HC.out.mono ?_
        rintro e w4 ⟨rfl, hk4⟩
        have hkw := hk1.trans' hk4
        have HB1 := HLB _ hkw
        have HT1 := HLT _ hkw
        go_wp2_with fail
        refine HB1.out.mono ?_
        rintro e w5 ⟨rfl, rfl⟩
        go_wp2_with fail
        refine HT1.out.mono ?_
        rintro e w6 ⟨rfl, rfl⟩
        go_wp2
        go_ret
        exact ⟨rfl, hkw⟩
    · have hbc : bitsC l k = 0 := by rw [bitsC, if_neg k0, hrc]
      obtain ⟨k, rfl⟩ : ∃ n : Nat, k = n := ⟨k.toNat, by omega⟩
      have k1 : ¬ ((k : Int) < 0) := by omega
      have k2 : ¬ ((16 : Int) < k) := by omega
      have d0 : decide ((k : Int) < 0) = false := decide_eq_false k1
      have d1 : decide ((16 : Int) < k) = false := decide_eq_false k2
      have hle := HMIN.out k (by omega)
      have HKK := fun u (hk : Keeps w u) => HLK u hk k (by omega)
      rw [hbc, if_pos rfl, Int.toNat_natCast] at HB
      clear k0 hbc hrc HMIN HLK hk
      generalize totI l (bestI l) = T at *
      generalize bestI l = b at *
      generalize totI l k = n at *
      go_wp2_with fail
      refine HB.out.mono ?_
      rintro e w2 ⟨rfl, rfl⟩
      go_wp2_with fail
      refine HT.out.mono ?_
      rintro e w3 ⟨rfl, rfl⟩
      go_wp2_with fail
      refine HC.out.mono ?_
      rintro e w4 ⟨rfl, hk4⟩
      have hkw := hk1.trans' hk4
      have HB1 := HLB _ hkw
      have HT1 := HLT _ hkw
      have HK1 := HKK _ hkw
      go_wp2_with fail
      refine HK1.out.mono ?_
      rintro e w5 ⟨rfl, rfl⟩
      go_wp2_with fail
      refine HB1.out.mono ?_
      rintro e w6 ⟨rfl, rfl⟩
      go_wp2_with fail
      refine HT1.out.mono ?_
      rintro e w7 ⟨rfl, rfl⟩
      go_wp2
      go_ret
      exact ⟨rfl, hkw⟩
end Go.Proofs.Ytbkcnhbdjllojaa
