/- Rows of ints and of corners compared by slices.Equal; raster.Equal. -/
import Derived.Test.YtecibfncnaccjaaTFindP
import Derived.Test.YtecibfncnaccjaaShelf
import Derived.Deep.QuietTactic
import Derived.BigQuiet
namespace Go.Proofs.Ytecibfncnaccjaa
open Go.RowKit Go.Shelf
theorem equalQ_any {w : World} {A B : Option Addr} {xs ys : List Int} {n m c d : Nat} (hA : IRow w A xs) (hB : IRow w B ys) (hn : n = xs.length) (hm : m = ys.length) (hl : xs.length ≤ maxLen) (hl' : ys.length ≤ maxLen) :
    Calls Try.prog 12 #[.slice A n c, .slice B m d] w fun e w' => e = .returned (.bool (decide (xs = ys))) ∧ ∃ q, w' = w.drewN q := by
  subst hn hm
  simp only [maxLen] at hl hl'
  by_cases h0 : xs.length = 0
  · obtain rfl := List.length_eq_zero_iff.1 h0
    refine (Try.slices_Equal_int_empty A B c ys.length d w (by omega)).mono ?_
    rintro e w' ⟨rfl, rfl⟩
    refine ⟨?_, 0, rfl⟩
    congr 2
    cases ys <;> simp
  · by_cases h1 : xs.length = ys.length
    · obtain ⟨b1, o1, rfl, -, c1⟩ := hA (by omega)
      obtain ⟨b2, o2, rfl, -, c2⟩ := hB (by omega)
      refine (Try.slices_Equal_int b1 o1 xs.length c b2 o2 ys.length d xs ys w (Nat.le_refl _) (Nat.le_refl _) (by omega) (by omega) c1 c2).mono ?_
      rintro e w' ⟨rfl, q, rfl⟩
      refine ⟨?_, q, rfl⟩
      congr 2
      rw [List.take_length, List.take_length]
      by_cases h : xs = ys
      · subst h; simp
      · simp [h]
    · refine (Try.slices_Equal_int_lens A B xs.length c ys.length d w h1).mono ?_
      rintro e w' ⟨rfl, rfl⟩
      refine ⟨?_, 0, rfl⟩
      congr 2
      exact (decide_eq_false fun h => h1 (by rw [h])).symm
/-- rasters of the same width, height and greatest pixel -/
theorem requal_same {w : World} {A B : Option Addr} {xs ys : List Int} {c d : Nat} {a b m : Int} (hA : IRow w A xs) (hB : IRow w B ys) (hl : xs.length ≤ maxLen) (hl' : ys.length ≤ maxLen) :
    Calls Try.prog 10 #[.agg #[.int .i64 a, .int .i64 b, .int .i64 m, .slice A xs.length c], .agg #[.int .i64 a, .int .i64 b, .int .i64 m, .slice B ys.length d]] w fun e w' => e = .returned (.bool (decide (xs = ys))) ∧ Keeps w w' := by
  obtain ⟨W1, hW1⟩ : ∃ W1, (w.alloc (.cells #[.int .i64 a, .int .i64 b, .int .i64 m, .slice A xs.length c] 24)).alloc (.cells #[.int .i64 a, .int .i64 b, .int .i64 m, .slice B ys.length d] 24) = W1 := ⟨_, rfl⟩
  have hk1 : Keeps w W1 := hW1 ▸ keep2 w _ _
  have p1 : Own W1 w.heap.size 24 [.int .i64 a, .int .i64 b, .int .i64 m, .slice A xs.length c] := hW1 ▸ (Own.new w _ _).alloc _
  have q1 : Own W1 (w.heap.size + 1) 24 [.int .i64 a, .int .i64 b, .int .i64 m, .slice B ys.length d] := hW1 ▸ own2 w _ _ _
  have x0 := p1.cell 0
  have x1 := p1.cell 1
  have x2 := p1.cell 2
  have x3 := p1.cell 3
  have y0 := q1.cell 0
  have y1 := q1.cell 1
  have y2 := q1.cell 2
  have y3 := q1.cell 3
  simp only [List.getElem?_cons_zero, List.getElem?_cons_succ] at x0 x1 x2 x3 y0 y1 y2 y3
  have HE := Lib.hid (equalQ_any (w := W1) (c := c) (d := d) (hA.below hk1) (hB.below hk1) rfl rfl hl hl')
  obtain ⟨r, hr⟩ : ∃ r, decide (xs = ys) = r := ⟨_, rfl⟩
  rw [hr] at HE ⊢
  clear hA hB hr p1 q1
  go_enter Try.func10, Try.ntmps10
  go_wp2_with fail
  refine HE.out.mono ?_
  rintro e w' ⟨rfl, q, rfl⟩
  go_wp2
  go_ret
  exact ⟨rfl, below_drewN hk1 _⟩
/-- rows of the same corners -/
theorem cequal_same {w : World} {A B : Option Addr} {l : List Cn} {n c d : Nat} (hA : CRow w A l) (hB : CRow w B l) (hn : n = l.length) (hl : n ≤ 20) :
    Calls Try.prog 11 #[.slice A n c, .slice B n d] w fun e w' => e = .returned (.bool true) ∧ Keeps w w' := by
  have hnI : (n : Int) ≤ 20 := by omega
  have HA := Lib.hid hA
  have HB := Lib.hid hB
  have HN := Lib.hid hn
  clear hA hB hn
  go_enter Try.func11, Try.ntmps11
  go_wp2
  go_loopw [13] (fun a wr => ∃ j : Nat, j ≤ n ∧ a = .int .i64 (j : Nat) ∧ ∃ q, wr = w.drewN q) (fun a _ => n - (intOf a).toNat)
  case atStart => exact ⟨0, Nat.zero_le _, rfl, 0, rfl⟩
  case round =>
    obtain ⟨j, hj, rfl, q, rfl⟩ := hrel
    by_cases hlt : j < n
    · have hltI : (j : Int) < (n : Int) := by omega
      have hjI : (j : Int) ≤ 20 := by omega
      obtain ⟨g, rest, rfl, ra⟩ := HA.out (by rw [← HN.out]; omega)
      obtain ⟨g', rest', rfl, rb⟩ := HB.out (by rw [← HN.out]; omega)
      obtain ⟨a, ha⟩ : ∃ a, l.getD j cz0 = a := ⟨_, rfl⟩
      obtain ⟨x0, x1, x2⟩ := ra.c (by rw [← HN.out]; exact hlt) ha
      obtain ⟨y0, y1, y2⟩ := rb.c (by rw [← HN.out]; exact hlt) ha
      clear ra rb ha
      go_wp2
      go_quiet (fail)
      go_wp2
      go_roundw
      case rel => exact ⟨j + 1, by omega, by go_num, _, rfl⟩
      case measure => simp [intOf]; omega
    · have hge : ¬ (j : Int) < (n : Int) := by omega
      go_wp2
      go_ret
      exact ⟨rfl, below_drewN (Below.refl _ _) _⟩
end Go.Proofs.Ytecibfncnaccjaa
