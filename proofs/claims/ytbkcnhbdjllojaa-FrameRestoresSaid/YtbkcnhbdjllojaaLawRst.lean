/- FrameRestores: the walk. -/
import Derived.Test.YtbkcnhbdjllojaaLEq
import Derived.Test.YtbkcnhbdjllojaaBits2
import Derived.Test.YtbkcnhbdjllojaaRestD
namespace Go.Proofs.Ytbkcnhbdjllojaa
open Go.RowKit Go.Shelf
attribute [local go_sem] Oper.semAt_some
section
variable {B : Value}
set_option maxRecDepth 100000 in
set_option maxHeartbeats 1000000 in
theorem fr_i {w : World} {A : Option Addr} {c : Nat} {px : List Int} (hr : IRow w A px) (hl : px.length ≤ maxLen) (p : Int → Bool) (hp : Says Try.prog 29 #[B] p w) :
    Calls Try.prog 62 #[.slice A px.length c, .func (.func 29) #[] #[B]] w fun e w' => ∃ v : Int, e = .returned (.int .i64 v) ∧ decide (0 ≤ v) = px.any p ∧ Keeps w w' := by
  have hlI : (px.length : Int) ≤ 9223372036854775807 := by simp only [maxLen] at hl; omega
  have HP : Hid (Says Try.prog 29 #[B] p w) := Lib.hid hp
  have HR := Lib.hid hr
  clear hr hp
  go_enter Try.func62, Try.ntmps62
  go_wp2
  go_loopw [8] (fun i wr => ∃ k : Nat, k ≤ px.length ∧ i = .int .i64 (k : Nat) ∧ Hid ((px.take k).any p = false) ∧ Keeps w wr) (fun i _ => px.length - (intOf i).toNat)
  case atStart => exact ⟨0, Nat.zero_le _, rfl, Lib.hid (by simp), Below.refl _ _⟩
  case round =>
    obtain ⟨k, hkd, rfl, HN, hk⟩ := hrel
    by_cases hlt : k < px.length
    · obtain ⟨b, o, rfl, c1⟩ := IRow.at (HR.out.below hk) (j := k) (by omega)
      have HS := Lib.hid (HP.out wr hk (px.getD k 0))
      have HY : Hid (p (px.getD k 0) = true → px.any p = true) := Lib.hid (any_yes hlt)
      have HZ : Hid (p (px.getD k 0) = false → (px.take (k + 1)).any p = false) := Lib.hid (any_snoc_no hlt HN.out)
      generalize px.getD k 0 = x at *
      go_wp2_with fail
      refine HS.out.mono ?_
      rintro e w1 ⟨rfl, hk1⟩
      cases hpx : p x with
      | true =>
        have HT := Lib.hid (HY.out hpx)
        clear hpx
        go_wp2
        go_ret
        exact ⟨_, rfl, by rw [HT.out]; simp, hk.trans' hk1⟩
      | false =>
        have HT := Lib.hid (HZ.out hpx)
        clear hpx
        go_wp2
        go_roundw
        case rel => exact ⟨k + 1, by omega, by go_num, HT, hk.trans' hk1⟩
        case measure => simp [intOf]; omega
    · obtain rfl : k = px.length := by omega
      go_wp2
      go_ret
      exact ⟨_, rfl, by have := HN.out; rw [List.take_of_length_le (Nat.le_refl _)] at this; rw [this]; rfl, hk⟩
set_option maxRecDepth 100000 in
theorem fr_c {w : World} {A : Option Addr} {c : Nat} {px : List Int} (hr : IRow w A px) (hl : px.length ≤ maxLen) (p : Int → Bool) (hp : Says Try.prog 29 #[B] p w) :
    Calls Try.prog 28 #[.slice A px.length c, .func (.func 29) #[] #[B]] w fun e w' => e = .returned (.bool (px.any p)) ∧ Keeps w w' := by
  have HI := Lib.hid (fr_i (c := c) hr hl p hp)
  clear hr hp
  go_enter Try.func28, Try.ntmps28
  go_wp2_with fail
  refine HI.out.mono ?_
  rintro e w1 ⟨v, rfl, hv, hk⟩
  have HV := Lib.hid hv
  clear hv
  go_wp2
  all_goals (go_ret; exact ⟨by rw [← HV.out]; rfl, hk⟩)
end
set_option maxRecDepth 100000 in
theorem offR {w : World} {b : Nat} {m : Int} (hm : w.cell? ⟨b, 0, none⟩ = some (.int .i64 m)) (hb : b < w.heap.size) : Says Try.prog 29 #[.pointer (some ⟨b, 0, none⟩)] (offM m) w := fun u hk x => by
  have c2 : u.cell? ⟨b, 0, none⟩ = some (.int .i64 m) := (hk.cell (p := ⟨b, 0, none⟩) hb).trans hm
  clear hm
  show Calls Try.prog 29 #[.int .i64 x, .pointer (some ⟨b, 0, none⟩)] u _
  by_cases t1 : x < 0
  · have HF := Lib.hid (show offM m x = true by unfold offM; simp [t1])
    go_enter Try.func29, Try.ntmps29
    go_wp2
    all_goals (go_ret; exact ⟨by rw [HF.out]; rfl, Below.refl _ _⟩)
  · by_cases t2 : m < x
    · have HF := Lib.hid (show offM m x = true by unfold offM; simp [t2])
      go_enter Try.func29, Try.ntmps29
      go_wp2
      all_goals (go_ret; exact ⟨by rw [HF.out]; first | rfl | (simp; omega), Below.refl _ _⟩)
    · have HF := Lib.hid (show offM m x = false by unfold offM; simp; omega)
      go_enter Try.func29, Try.ntmps29
      go_wp2
      all_goals (go_ret; exact ⟨by rw [HF.out]; first | rfl | (simp; omega), Below.refl _ _⟩)
theorem rasC_rest {W : Nat} {H m : Int} {l : List Int} (h : restC W H m l = 0) : rasC W H m (restI W m l) = 0 := by
  obtain ⟨h1, h2, h3, h4, -, -⟩ := restC_0 h
  have hl : (restI W m l).length = l.length := restU_length W m l l.length
  exact if_pos ⟨h1.1, h1.2, h2.1, h2.2, h3.1, h3.2, by rw [hl]; exact h4, restU_grey l (by omega) l.length⟩
set_option maxRecDepth 100000 in
set_option maxHeartbeats 2000000 in
theorem frameRestores_any {w : World} (a b : Int) (ha : -9223372036854775808 ≤ a ∧ a ≤ 9223372036854775807) (hb : -9223372036854775808 ≤ b ∧ b ≤ 9223372036854775807) (m : Int) (hm : -9223372036854775808 ≤ m ∧ m ≤ 9223372036854775807)
    {A : Option Addr} {c : Nat} {l : List Int} (hr : IRow w A l) (hl : l.length ≤ maxLen) (_ : ∀ x ∈ l, -9223372036854775808 ≤ x ∧ x ≤ 9223372036854775807) :
    Calls Try.prog 8 #[.agg #[.int .i64 a, .int .i64 b], .int .i64 m, .slice A l.length c] w fun e w' => e = .returned (.bool true) ∧ Keeps w w' := by
  obtain ⟨W1, hW1⟩ : ∃ W1, (w.alloc (.cells #[.int .i64 a, .int .i64 b] 50)).alloc (.cells #[.int .i64 m] 3) = W1 := ⟨_, rfl⟩
  have g0 : Own W1 w.heap.size 50 [.int .i64 a, .int .i64 b] := hW1 ▸ (Own.new w _ _).alloc _
  have g1 : Own W1 (w.heap.size + 1) 3 [.int .i64 m] := hW1 ▸ own2 w _ _ _
  have hkw : Keeps w W1 := hW1 ▸ keep2 w _ _
  have HK := Lib.hid (known_any W1)
  have HR := Lib.hid hr
  have HS : ∀ u : World, Hid _ := fun u => Lib.hid (sameRaster_yes (w := u) (A := none) (B := none) (n := 0) (n' := 0) (c := 0) (d := 0) (px := []) Row.zero Row.zero rfl rfl (by decide) 0 0 0)
  have hlI : (l.length : Int) ≤ 9223372036854775807 := by simp only [maxLen] at hl; omega
  clear hr
  go_enter Try.func8, Try.ntmps8
  go_wp2_with fail
  refine HK.out.mono ?_
  rintro e w1 ⟨rfl, hk1⟩
  replace g0 := g0.below hk1
  replace g1 := g1.below hk1
  replace hkw := hkw.trans' hk1
  have x0 := g0.cell 0
  have x1 := g0.cell 1
  have z0 := g1.cell 0
  simp only [List.getElem?_cons_zero, List.getElem?_cons_succ] at x0 x1 z0
  clear hW1
  by_cases hlen : 200 < l.length
  · have hlenI : (200 : Int) < l.length := by omega
    go_wp2
    go_ret
    exact ⟨rfl, hkw⟩
  have hlenI : ¬ ((200 : Int) < l.length) := by omega
  by_cases t0 : a < 1
  · have d0 : decide (a < 1) = true := decide_eq_true t0
    have hC : restC a b m l = 2 := if_pos (by omega)
    have HN := Lib.hid (restore_no (c := c) (HR.out.below hkw) a b m hl (by rw [hC]; decide))
    rw [hC] at HN
    clear hC
    go_wp2_with fail
    refine HN.out.mono ?_
    rintro e w2 ⟨rfl, hk2⟩
    replace g0 := g0.below hk2
    replace g1 := g1.below hk2
    replace hkw := hkw.trans' hk2
    have g7 : Own (w2.alloc (.cells #[.int .i64 0, .int .i64 0, .int .i64 0, .slice none 0 0] 25)) w2.heap.size 25 [.int .i64 0, .int .i64 0, .int .i64 0, .slice none 0 0] := Own.new w2 _ _
    have hk3 : Keeps w2 (w2.alloc (.cells #[.int .i64 0, .int .i64 0, .int .i64 0, .slice none 0 0] 25)) := (Below.refl _ _).alloc (Nat.le_refl _) _
    replace g0 := g0.below hk3
    replace g1 := g1.below hk3
    replace hkw := hkw.trans' hk3
    have x0 := g0.cell 0
    have x1 := g0.cell 1
    have z0 := g1.cell 0
    simp only [List.getElem?_cons_zero, List.getElem?_cons_succ] at x0 x1 z0
    have y0 := g7.cell 0
    have y1 := g7.cell 1
    have y2 := g7.cell 2
    have y3 := g7.cell 3
    simp only [List.getElem?_cons_zero, List.getElem?_cons_succ] at y0 y1 y2 y3
    go_wp2_with fail
    refine (HS _).out.mono ?_
    rintro e w4 ⟨rfl, hk4⟩
    go_wp2
    go_ret
    exact ⟨rfl, hkw.trans' hk4⟩
  have d0 : decide (a < 1) = false := decide_eq_false t0
  by_cases t1 : 64 < a
  · have d1 : decide (64 < a) = true := decide_eq_true t1
    have hC : restC a b m l = 2 := if_pos (by omega)
    have HN := Lib.hid (restore_no (c := c) (HR.out.below hkw) a b m hl (by rw [hC]; decide))
    rw [hC] at HN
    clear hC
    go_wp2_with fail
    refine HN.out.mono ?_
    rintro e w2 ⟨rfl, hk2⟩
    replace g0 := g0.below hk2
    replace g1 := g1.below hk2
    replace hkw := hkw.trans' hk2
    have g7 : Own (w2.alloc (.cells #[.int .i64 0, .int .i64 0, .int .i64 0, .slice none 0 0] 25)) w2.heap.size 25 [.int .i64 0, .int .i64 0, .int .i64 0, .slice none 0 0] := Own.new w2 _ _
    have hk3 : Keeps w2 (w2.alloc (.cells #[.int .i64 0, .int .i64 0, .int .i64 0, .slice none 0 0] 25)) := (Below.refl _ _).alloc (Nat.le_refl _) _
    replace g0 := g0.below hk3
    replace g1 := g1.below hk3
    replace hkw := hkw.trans' hk3
    have x0 := g0.cell 0
    have x1 := g0.cell 1
    have z0 := g1.cell 0
    simp only [List.getElem?_cons_zero, List.getElem?_cons_succ] at x0 x1 z0
    have y0 := g7.cell 0
    have y1 := g7.cell 1
    have y2 := g7.cell 2
    have y3 := g7.cell 3
    simp only [List.getElem?_cons_zero, List.getElem?_cons_succ] at y0 y1 y2 y3
    go_wp2_with fail
    refine (HS _).out.mono ?_
    rintro e w4 ⟨rfl, hk4⟩
    go_wp2
    go_ret
    exact ⟨rfl, hkw.trans' hk4⟩
  have d1 : decide (64 < a) = false := decide_eq_false t1
  by_cases t2 : b < 1
  · have d2 : decide (b < 1) = true := decide_eq_true t2
    have hC : restC a b m l = 2 := if_pos (by omega)
    have HN := Lib.hid (restore_no (c := c) (HR.out.below hkw) a b m hl (by rw [hC]; decide))
    rw [hC] at HN
    clear hC
    go_wp2_with fail
    refine HN.out.mono ?_
    rintro e w2 ⟨rfl, hk2⟩
    replace g0 := g0.below hk2
    replace g1 := g1.below hk2
    replace hkw := hkw.trans' hk2
    have g7 : Own (w2.alloc (.cells #[.int .i64 0, .int .i64 0, .int .i64 0, .slice none 0 0] 25)) w2.heap.size 25 [.int .i64 0, .int .i64 0, .int .i64 0, .slice none 0 0] := Own.new w2 _ _
    have hk3 : Keeps w2 (w2.alloc (.cells #[.int .i64 0, .int .i64 0, .int .i64 0, .slice none 0 0] 25)) := (Below.refl _ _).alloc (Nat.le_refl _) _
    replace g0 := g0.below hk3
    replace g1 := g1.below hk3
    replace hkw := hkw.trans' hk3
    have x0 := g0.cell 0
    have x1 := g0.cell 1
    have z0 := g1.cell 0
    simp only [List.getElem?_cons_zero, List.getElem?_cons_succ] at x0 x1 z0
    have y0 := g7.cell 0
    have y1 := g7.cell 1
    have y2 := g7.cell 2
    have y3 := g7.cell 3
    simp only [List.getElem?_cons_zero, List.getElem?_cons_succ] at y0 y1 y2 y3
    go_wp2_with fail
    refine (HS _).out.mono ?_
    rintro e w4 ⟨rfl, hk4⟩
    go_wp2
    go_ret
    exact ⟨rfl, hkw.trans' hk4⟩
  have d2 : decide (b < 1) = false := decide_eq_false t2
  by_cases t3 : 64 < b
  · have d3 : decide (64 < b) = true := decide_eq_true t3
    have hC : restC a b m l = 2 := if_pos (by omega)
    have HN := Lib.hid (restore_no (c := c) (HR.out.below hkw) a b m hl (by rw [hC]; decide))
    rw [hC] at HN
    clear hC
    go_wp2_with fail
    refine HN.out.mono ?_
    rintro e w2 ⟨rfl, hk2⟩
    replace g0 := g0.below hk2
    replace g1 := g1.below hk2
    replace hkw := hkw.trans' hk2
    have g7 : Own (w2.alloc (.cells #[.int .i64 0, .int .i64 0, .int .i64 0, .slice none 0 0] 25)) w2.heap.size 25 [.int .i64 0, .int .i64 0, .int .i64 0, .slice none 0 0] := Own.new w2 _ _
    have hk3 : Keeps w2 (w2.alloc (.cells #[.int .i64 0, .int .i64 0, .int .i64 0, .slice none 0 0] 25)) := (Below.refl _ _).alloc (Nat.le_refl _) _
    replace g0 := g0.below hk3
    replace g1 := g1.below hk3
    replace hkw := hkw.trans' hk3
    have x0 := g0.cell 0
    have x1 := g0.cell 1
    have z0 := g1.cell 0
    simp only [List.getElem?_cons_zero, List.getElem?_cons_succ] at x0 x1 z0
    have y0 := g7.cell 0
    have y1 := g7.cell 1
    have y2 := g7.cell 2
    have y3 := g7.cell 3
    simp only [List.getElem?_cons_zero, List.getElem?_cons_succ] at y0 y1 y2 y3
    go_wp2_with fail
    refine (HS _).out.mono ?_
    rintro e w4 ⟨rfl, hk4⟩
    go_wp2
    go_ret
    exact ⟨rfl, hkw.trans' hk4⟩
  have d3 : decide (64 < b) = false := decide_eq_false t3
  by_cases t4 : m < 1
  · have d4 : decide (m < 1) = true := decide_eq_true t4
    have hC : restC a b m l = 2 := if_pos (by omega)
    have HN := Lib.hid (restore_no (c := c) (HR.out.below hkw) a b m hl (by rw [hC]; decide))
    rw [hC] at HN
    clear hC
    go_wp2_with fail
    refine HN.out.mono ?_
    rintro e w2 ⟨rfl, hk2⟩
    replace g0 := g0.below hk2
    replace g1 := g1.below hk2
    replace hkw := hkw.trans' hk2
    have g7 : Own (w2.alloc (.cells #[.int .i64 0, .int .i64 0, .int .i64 0, .slice none 0 0] 25)) w2.heap.size 25 [.int .i64 0, .int .i64 0, .int .i64 0, .slice none 0 0] := Own.new w2 _ _
    have hk3 : Keeps w2 (w2.alloc (.cells #[.int .i64 0, .int .i64 0, .int .i64 0, .slice none 0 0] 25)) := (Below.refl _ _).alloc (Nat.le_refl _) _
    replace g0 := g0.below hk3
    replace g1 := g1.below hk3
    replace hkw := hkw.trans' hk3
    have x0 := g0.cell 0
    have x1 := g0.cell 1
    have z0 := g1.cell 0
    simp only [List.getElem?_cons_zero, List.getElem?_cons_succ] at x0 x1 z0
    have y0 := g7.cell 0
    have y1 := g7.cell 1
    have y2 := g7.cell 2
    have y3 := g7.cell 3
    simp only [List.getElem?_cons_zero, List.getElem?_cons_succ] at y0 y1 y2 y3
    go_wp2_with fail
    refine (HS _).out.mono ?_
    rintro e w4 ⟨rfl, hk4⟩
    go_wp2
    go_ret
    exact ⟨rfl, hkw.trans' hk4⟩
  have d4 : decide (m < 1) = false := decide_eq_false t4
  by_cases t5 : 65535 < m
  · have d5 : decide (65535 < m) = true := decide_eq_true t5
    have hC : restC a b m l = 2 := if_pos (by omega)
    have HN := Lib.hid (restore_no (c := c) (HR.out.below hkw) a b m hl (by rw [hC]; decide))
    rw [hC] at HN
    clear hC
    go_wp2_with fail
    refine HN.out.mono ?_
    rintro e w2 ⟨rfl, hk2⟩
    replace g0 := g0.below hk2
    replace g1 := g1.below hk2
    replace hkw := hkw.trans' hk2
    have g7 : Own (w2.alloc (.cells #[.int .i64 0, .int .i64 0, .int .i64 0, .slice none 0 0] 25)) w2.heap.size 25 [.int .i64 0, .int .i64 0, .int .i64 0, .slice none 0 0] := Own.new w2 _ _
    have hk3 : Keeps w2 (w2.alloc (.cells #[.int .i64 0, .int .i64 0, .int .i64 0, .slice none 0 0] 25)) := (Below.refl _ _).alloc (Nat.le_refl _) _
    replace g0 := g0.below hk3
    replace g1 := g1.below hk3
    replace hkw := hkw.trans' hk3
    have x0 := g0.cell 0
    have x1 := g0.cell 1
    have z0 := g1.cell 0
    simp only [List.getElem?_cons_zero, List.getElem?_cons_succ] at x0 x1 z0
    have y0 := g7.cell 0
    have y1 := g7.cell 1
    have y2 := g7.cell 2
    have y3 := g7.cell 3
    simp only [List.getElem?_cons_zero, List.getElem?_cons_succ] at y0 y1 y2 y3
    go_wp2_with fail
    refine (HS _).out.mono ?_
    rintro e w4 ⟨rfl, hk4⟩
    go_wp2
    go_ret
    exact ⟨rfl, hkw.trans' hk4⟩
  have d5 : decide (65535 < m) = false := decide_eq_false t5
  have hq0 : 0 ≤ a * b := Int.mul_nonneg (by omega) (by omega)
  have hq1 : a * b ≤ 64 * 64 := Int.mul_le_mul (by omega) (by omega) (by omega) (by omega)
  obtain ⟨q, hq⟩ : ∃ q, a * b = q := ⟨_, rfl⟩
  have hC0 : restC a b m l = if (l.length : Int) ≠ q then 4 else if l.any (offM m) then 2 else 0 := by rw [restC, if_neg (by omega), hq]
  rw [hq] at hq0 hq1
  by_cases t7 : (l.length : Int) = q
  · have d7 : ((l.length : Int) != q) = false := by simp [t7]
    rw [if_neg (by simp [t7])] at hC0
    cases hany : l.any (offM m) with
    | true =>
      rw [hany] at hC0
      have hC : restC a b m l = 2 := hC0
      have HANY := Lib.hid hany
      clear hC0 hany
      have HN := Lib.hid (restore_no (c := c) (HR.out.below hkw) a b m hl (by rw [hC]; decide))
      rw [hC] at HN
      clear hC
      go_wp2_with fail
      refine HN.out.mono ?_
      rintro e w2 ⟨rfl, hk2⟩
      replace g0 := g0.below hk2
      replace g1 := g1.below hk2
      replace hkw := hkw.trans' hk2
      have g7 : Own (w2.alloc (.cells #[.int .i64 0, .int .i64 0, .int .i64 0, .slice none 0 0] 25)) w2.heap.size 25 [.int .i64 0, .int .i64 0, .int .i64 0, .slice none 0 0] := Own.new w2 _ _
      have hk3 : Keeps w2 (w2.alloc (.cells #[.int .i64 0, .int .i64 0, .int .i64 0, .slice none 0 0] 25)) := (Below.refl _ _).alloc (Nat.le_refl _) _
      replace g0 := g0.below hk3
      replace g1 := g1.below hk3
      replace hkw := hkw.trans' hk3
      have x0 := g0.cell 0
      have x1 := g0.cell 1
      have z0 := g1.cell 0
      simp only [List.getElem?_cons_zero, List.getElem?_cons_succ] at x0 x1 z0
      have y0 := g7.cell 0
      have y1 := g7.cell 1
      have y2 := g7.cell 2
      have y3 := g7.cell 3
      simp only [List.getElem?_cons_zero, List.getElem?_cons_succ] at y0 y1 y2 y3
      have HC := Lib.hid (fr_c (c := c) (HR.out.below hkw) hl _ (offR z0 g1.lt))
      rw [HANY.out] at HC
      go_wp2_with fail
      refine HC.out.mono ?_
      rintro e w5 ⟨rfl, hk5⟩
      replace g7 := g7.below hk5
      replace hkw := hkw.trans' hk5
      have y0 := g7.cell 0
      have y1 := g7.cell 1
      have y2 := g7.cell 2
      have y3 := g7.cell 3
      simp only [List.getElem?_cons_zero, List.getElem?_cons_succ] at y0 y1 y2 y3
      go_wp2_with fail
      refine (HS _).out.mono ?_
      rintro e w4 ⟨rfl, hk4⟩
      go_wp2
      go_ret
      exact ⟨rfl, hkw.trans' hk4⟩
    | false =>
      rw [hany] at hC0
      have hC : restC a b m l = 0 := hC0
      have HANY := Lib.hid hany
      clear hC0 hany
      obtain ⟨a, rfl⟩ : ∃ n : Nat, a = n := ⟨a.toNat, by omega⟩
      have HN := Lib.hid (restore_yes (c := c) (HR.out.below hkw) a b m hC)
      obtain ⟨hA1, hA2, hA3, -, hA4, hg⟩ := restC_0 hC
      have hL : (restI a m l).length = l.length := restU_length a m l l.length
      have HRC := Lib.hid (rasC_rest hC)
      have HRR := Lib.hid (resI_rest (W := a) (by omega) hg (by omega))
      have HRS := fun u (hk : Keeps w u) => Lib.hid (restored_any (c := c) (HR.out.below hk) a b m (by omega) hA3 hA4 hg)
      generalize restI a m l = px at *
      have HL := Lib.hid hL
      clear hg hC hL
      go_wp2_with fail
      refine HN.out.mono ?_
      rintro e w2 ⟨V, rfl, hV, hk2⟩
      obtain ⟨A2, c2, rfl, -⟩ := hV.sl
      have hR2 : IRow w2 A2 px := IRow.of_own hV rfl
      replace g0 := g0.below hk2
      replace g1 := g1.below hk2
      replace hkw := hkw.trans' hk2
      obtain ⟨W3, hW3⟩ : ∃ W3, w2.alloc (.cells #[.int .i64 (a : Nat), .int .i64 b, .int .i64 m, .slice A2 px.length c2] 25) = W3 := ⟨_, rfl⟩
      have g7 : Own W3 w2.heap.size 25 [.int .i64 (a : Nat), .int .i64 b, .int .i64 m, .slice A2 px.length c2] := hW3 ▸ Own.new w2 _ _
      have hk3 : Keeps w2 W3 := hW3 ▸ (Below.refl _ _).alloc (Nat.le_refl _) _
      replace g0 := g0.below hk3
      replace g1 := g1.below hk3
      replace hkw := hkw.trans' hk3
      have x0 := g0.cell 0
      have x1 := g0.cell 1
      have z0 := g1.cell 0
      simp only [List.getElem?_cons_zero, List.getElem?_cons_succ] at x0 x1 z0
      have y0 := g7.cell 0
      have y1 := g7.cell 1
      have y2 := g7.cell 2
      have y3 := g7.cell 3
      simp only [List.getElem?_cons_zero, List.getElem?_cons_succ] at y0 y1 y2 y3
      have HC := Lib.hid (fr_c (c := c) (HR.out.below hkw) hl _ (offR z0 g1.lt))
      rw [HANY.out] at HC
      have HP2 := Lib.hid (hR2.below hk3)
      clear hV hR2
      go_wp2_with fail
      refine HC.out.mono ?_
      rintro e w5 ⟨rfl, hk5⟩
      replace g0 := g0.below hk5
      replace g1 := g1.below hk5
      replace g7 := g7.below hk5
      replace hkw := hkw.trans' hk5
      have x0 := g0.cell 0
      have x1 := g0.cell 1
      have z0 := g1.cell 0
      simp only [List.getElem?_cons_zero, List.getElem?_cons_succ] at x0 x1 z0
      have y0 := g7.cell 0
      have y1 := g7.cell 1
      have y2 := g7.cell 2
      have y3 := g7.cell 3
      simp only [List.getElem?_cons_zero, List.getElem?_cons_succ] at y0 y1 y2 y3
      have HP5 := Lib.hid (HP2.out.below hk5)
      have HRES := Lib.hid (fResiduals_yes (c := c2) HP5.out a b m HRC.out)
      rw [HRR.out] at HRES
      go_wp2_with fail
      refine HRES.out.mono ?_
      rintro e w6 ⟨V6, rfl, hV6, hk6⟩
      obtain ⟨A6, c6, rfl, -⟩ := hV6.sl
      have HP6 := Lib.hid (HP5.out.below hk6)
      have HQ6 : Hid (IRow w6 A6 l) := Lib.hid (IRow.of_own hV6 rfl)
      replace g0 := (g0.below hk6).drew
      replace g1 := (g1.below hk6).drew
      replace g7 := (g7.below hk6).drew
      have hkw6 := hkw.trans' hk6
      replace hkw : Keeps w w6.drew := Below.drew hkw6
      have hk6d : Keeps w6 w6.drew := Below.drew (Below.refl _ _)
      have HEQ := fun u (hk : Keeps w6 u) => Lib.hid (equalI_any (c := c) (d := c6) (HR.out.below (hkw6.trans' hk)) (HQ6.out.below hk) rfl rfl hl hl)
      rw [decide_eq_true rfl] at HEQ
      clear hV6 x0 x1 z0 y0 y1 y2 y3
      go_wp2
      go_region_held3 (fun w' => (w'.cell? ⟨w.heap.size, 0, none⟩ = some (.int .i64 (a : Nat)) ∧ w'.cell? ⟨w.heap.size, 1, none⟩ = some (.int .i64 b) ∧ w'.cell? ⟨w.heap.size + 1, 0, none⟩ = some (.int .i64 m)) ∧ w'.cell? ⟨w2.heap.size, 0, none⟩ = some (.int .i64 (a : Nat)) ∧ w'.cell? ⟨w2.heap.size, 1, none⟩ = some (.int .i64 b) ∧ w'.cell? ⟨w2.heap.size, 2, none⟩ = some (.int .i64 m) ∧ w'.cell? ⟨w2.heap.size, 3, none⟩ = some (.slice A2 px.length c2))
        (first | exact ⟨⟨g0.cell 0, g0.cell 1, g1.cell 0⟩, g7.cell 0, g7.cell 1, g7.cell 2, g7.cell 3⟩)
        (first
          | (go_at_call 30; refine (HRS _ hkw).out.mono ?_; rintro e wa ⟨V8, rfl, hV8, hka⟩; obtain ⟨A8, c8, rfl, -⟩ := hV8.sl; have hR8 : IRow wa A8 px := IRow.of_own hV8 rfl; replace g0 := g0.below hka; replace g1 := g1.below hka; replace g7 := g7.below hka; replace hkw := hkw.trans' hka; replace hk6d := hk6d.trans' hka)
          | (go_at_call 27; refine (sameRaster_yes (c := c2) (d := c8) (HP6.out.below hk6d) hR8 rfl rfl (by have := HL.out; omega) a b m).mono ?_; rintro e wb ⟨rfl, hkb⟩; replace g0 := g0.below hkb; replace g1 := g1.below hkb; replace g7 := g7.below hkb; replace hkw := hkw.trans' hkb; replace hk6d := hk6d.trans' hkb)
          | (go_at_call 25; refine (HEQ _ hk6d).out.mono ?_; rintro e wc ⟨rfl, hkc⟩; replace g0 := g0.below hkc; replace g1 := g1.below hkc; replace g7 := g7.below hkc; replace hkw := hkw.trans' hkc))
      go_wp2
      go_ret
      exact ⟨rfl, hkw⟩
  · have d7 : ((l.length : Int) != q) = true := by simp [t7]
    rw [if_pos t7] at hC0
    have hC : restC a b m l = 4 := hC0
    clear hC0
    have HN := Lib.hid (restore_no (c := c) (HR.out.below hkw) a b m hl (by rw [hC]; decide))
    rw [hC] at HN
    clear hC
    go_wp2_with fail
    refine HN.out.mono ?_
    rintro e w2 ⟨rfl, hk2⟩
    replace g0 := g0.below hk2
    replace g1 := g1.below hk2
    replace hkw := hkw.trans' hk2
    have g7 : Own (w2.alloc (.cells #[.int .i64 0, .int .i64 0, .int .i64 0, .slice none 0 0] 25)) w2.heap.size 25 [.int .i64 0, .int .i64 0, .int .i64 0, .slice none 0 0] := Own.new w2 _ _
    have hk3 : Keeps w2 (w2.alloc (.cells #[.int .i64 0, .int .i64 0, .int .i64 0, .slice none 0 0] 25)) := (Below.refl _ _).alloc (Nat.le_refl _) _
    replace g0 := g0.below hk3
    replace g1 := g1.below hk3
    replace hkw := hkw.trans' hk3
    have x0 := g0.cell 0
    have x1 := g0.cell 1
    have z0 := g1.cell 0
    simp only [List.getElem?_cons_zero, List.getElem?_cons_succ] at x0 x1 z0
    have y0 := g7.cell 0
    have y1 := g7.cell 1
    have y2 := g7.cell 2
    have y3 := g7.cell 3
    simp only [List.getElem?_cons_zero, List.getElem?_cons_succ] at y0 y1 y2 y3
    go_wp2_with fail
    refine (HS _).out.mono ?_
    rintro e w4 ⟨rfl, hk4⟩
    go_wp2
    go_ret
    exact ⟨rfl, hkw.trans' hk4⟩
end Go.Proofs.Ytbkcnhbdjllojaa
