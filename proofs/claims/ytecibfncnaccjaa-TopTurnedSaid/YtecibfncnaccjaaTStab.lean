/- slices.stableCmpFunc and SortStableFunc of at most 20 corners: the walks. -/
import Derived.Test.YtecibfncnaccjaaTIns
namespace Go.Proofs.Ytecibfncnaccjaa
open Go.RowKit Go.Shelf
set_option maxRecDepth 100000 in
set_option maxHeartbeats 1000000 in
theorem ins_nil (w : World) (V F : Value) (a b : Int) (ha : 0 ≤ a ∧ a ≤ 4096) (h : b ≤ a + 1) : Calls Try.prog 32 #[V, .int .i64 a, .int .i64 b, F] w fun e w' => e = .returned (.tuple #[]) ∧ w' = w := by
  have t1 : decide (a + 1 < b) = false := decide_eq_false (by omega)
  obtain ⟨a1, a2⟩ := ha
  go_enter Try.func32, Try.ntmps32
  go_wp2
  go_loop [8] (fun i => i = .int .i64 (a + 1)) (fun _ => 0)
  case atStart => rfl
  case round =>
    subst hrel
    go_wp2
    refine bodyPost_end (results_none rfl _ _ _) rfl ?_
    exact ⟨rfl, rfl⟩
/-- what the sort does -/
def SortPost (g : Nat) (l : List Cn) (rest : List Value) (w : World) (e : Ending) (w' : World) : Prop := e = .returned (.tuple #[]) ∧ RowC w' g (srt l.length l) rest ∧ Turn [g] w w'
set_option maxRecDepth 100000 in
set_option maxHeartbeats 2000000 in
theorem stable_zero (w : World) (V F : Value) : Calls Try.prog 28 #[V, .int .i64 0, F] w fun e w' => e = .returned (.tuple #[]) ∧ w' = w := by
  have HI := Lib.hid (ins_nil w V F 0 0 (by omega) (by omega))
  go_enter Try.func28, Try.ntmps28
  go_wp2
  go_loop [7, 8] (fun a b => a = .int .i64 0 ∧ b = .int .i64 20) (fun _ _ => 0)
  case atStart => exact ⟨rfl, rfl⟩
  case round =>
    obtain ⟨rfl, rfl⟩ := hrel
    go_wp2_with fail
    refine HI.out.mono ?_
    rintro e w1 ⟨rfl, hw⟩
    obtain rfl : w = w1 := hw.symm
    go_wp2
    go_loop [6] (fun a => a = .int .i64 20) (fun _ => 0)
    case atStart => rfl
    case round =>
      subst hrel
      go_wp2
      refine bodyPost_end (results_none rfl _ _ _) rfl ?_
      exact ⟨rfl, rfl⟩
set_option maxRecDepth 100000 in
set_option maxHeartbeats 2000000 in
theorem stable_few {w : World} {g n c : Nat} {l : List Cn} {rest : List Value} (hr : RowC w g l rest) (hn : n = l.length) (hl : n < 20) :
    Calls Try.prog 28 #[.slice (some ⟨g, 0, none⟩) n c, .int .i64 (n : Nat), .func (.func 19) #[] #[]] w (SortPost g l rest w) := by
  have HI := Lib.hid (ins_any (c := c) (m := n) hr hn (Nat.le_refl _) (by omega))
  have hnI : (n : Int) < 20 := by omega
  have t1 : decide ((20 : Int) ≤ (n : Int)) = false := decide_eq_false (by omega)
  have t2 : decide ((20 : Int) < (n : Int)) = false := decide_eq_false (by omega)
  have t1n : (20 ≤ n) = False := eq_false (by omega)
  have t2n : (20 < n) = False := eq_false (by omega)
  have HN := Lib.hid hn
  clear hr hn
  go_enter Try.func28, Try.ntmps28
  go_wp2
  go_loop [7, 8] (fun a b => a = .int .i64 0 ∧ b = .int .i64 20) (fun _ _ => 0)
  case atStart => exact ⟨rfl, rfl⟩
  case round =>
    obtain ⟨rfl, rfl⟩ := hrel
    go_wp2_with fail
    refine HI.out.mono ?_
    rintro e w1 ⟨rfl, hr1, ht⟩
    have HP : Hid (SortPost g l rest w (.returned (.tuple #[])) w1) := Lib.hid ⟨rfl, by rw [← HN.out]; exact hr1, ht⟩
    clear hr1 ht
    go_wp2
    go_loop [6] (fun a => a = .int .i64 20) (fun _ => 0)
    case atStart => rfl
    case round =>
      subst hrel
      go_wp2
      refine bodyPost_end (results_none rfl _ _ _) rfl ?_
      exact HP.out
set_option maxRecDepth 100000 in
set_option maxHeartbeats 2000000 in
theorem stable_20 {w : World} {g c : Nat} {l : List Cn} {rest : List Value} (hr : RowC w g l rest) (hn : 20 = l.length) :
    Calls Try.prog 28 #[.slice (some ⟨g, 0, none⟩) 20 c, .int .i64 20, .func (.func 19) #[] #[]] w (SortPost g l rest w) := by
  have HI := Lib.hid (ins_any (c := c) (m := 20) hr hn (Nat.le_refl _) (by omega))
  have HN := Lib.hid hn
  have HJ := Lib.hid (fun w1 => ins_nil w1 (.slice (some ⟨g, 0, none⟩) 20 c) (.func (.func 19) #[] #[]) 20 20 (by omega) (by omega))
  clear hr hn
  go_enter Try.func28, Try.ntmps28
  go_wp2
  go_loopw [7, 8] (fun a b wr => (a = .int .i64 0 ∧ b = .int .i64 20 ∧ wr = w) ∨ (a = .int .i64 20 ∧ b = .int .i64 40 ∧ Hid (SortPost g l rest w (.returned (.tuple #[])) wr))) (fun _ b _ => 40 - (intOf b).toNat)
  case atStart => exact .inl ⟨rfl, rfl, rfl⟩
  case round =>
    rcases hrel with ⟨rfl, rfl, hw⟩ | ⟨rfl, rfl, HP⟩
    · obtain rfl : w = wr := hw.symm
      go_wp2_with fail
      refine HI.out.mono ?_
      rintro e w1 ⟨rfl, hr1, ht⟩
      have HP : Hid (SortPost g l rest w (.returned (.tuple #[])) w1) := Lib.hid ⟨rfl, by rw [← HN.out]; exact hr1, ht⟩
      clear hr1 ht
      go_wp2
      go_roundw
      case rel => exact .inr ⟨rfl, rfl, HP⟩
      case measure => simp [intOf]
    · go_wp2_with fail
      refine (HJ.out _).mono ?_
      rintro e w1 ⟨rfl, hw⟩
      obtain rfl : wr = w1 := hw.symm
      go_wp2
      go_loop [6] (fun a => a = .int .i64 20) (fun _ => 0)
      case atStart => rfl
      case round =>
        subst hrel
        go_wp2
        refine bodyPost_end (results_none rfl _ _ _) rfl ?_
        exact HP.out
theorem stable_any {w : World} {g n c : Nat} {l : List Cn} {rest : List Value} (hr : RowC w g l rest) (hn : n = l.length) (hl : n ≤ 20) :
    Calls Try.prog 28 #[.slice (some ⟨g, 0, none⟩) n c, .int .i64 (n : Nat), .func (.func 19) #[] #[]] w (SortPost g l rest w) := by
  rcases Nat.lt_or_eq_of_le hl with h | h
  · exact stable_few hr hn h
  · subst h
    exact stable_20 hr hn
set_option maxRecDepth 100000 in
theorem sort_any {w : World} {g n c : Nat} {l : List Cn} {rest : List Value} (hr : RowC w g l rest) (hn : n = l.length) (hl : n ≤ 20) :
    Calls Try.prog 18 #[.slice (some ⟨g, 0, none⟩) n c, .func (.func 19) #[] #[]] w (SortPost g l rest w) := by
  have HS := Lib.hid (stable_any (c := c) hr hn hl)
  clear hr hn
  go_enter Try.func18, Try.ntmps18
  go_wp2_with fail
  refine HS.out.mono ?_
  rintro e w1 ⟨rfl, h1, h2⟩
  go_wp2
  refine bodyPost_end (results_none rfl _ _ _) rfl ?_
  exact ⟨rfl, h1, h2⟩
set_option maxRecDepth 100000 in
theorem sort_zero (w : World) : Calls Try.prog 18 #[.slice none 0 0, .func (.func 19) #[] #[]] w fun e w' => e = .returned (.tuple #[]) ∧ w' = w := by
  have HS := Lib.hid (stable_zero w (.slice none 0 0) (.func (.func 19) #[] #[]))
  go_enter Try.func18, Try.ntmps18
  go_wp2_with fail
  refine HS.out.mono ?_
  rintro e w1 ⟨rfl, rfl⟩
  go_wp2
  refine bodyPost_end (results_none rfl _ _ _) rfl ?_
  exact ⟨rfl, rfl⟩
end Go.Proofs.Ytecibfncnaccjaa
