/- The walks of the laws' helpers: short, same. -/
import Derived.Test.YthgbgoidnnfapaaDoorRefH
namespace Go.Proofs.YthgbgoidnnfapaaDoor
open Go.RowKit Go.Shelf

/-- the cells of a []api.Int -/
def intRow (l : List (Bool × Value)) (j : Nat) : Value := if j % 2 = 0 then .bool (l.getD (j / 2) (false, undef)).1 else (l.getD (j / 2) (false, undef)).2

set_option maxRecDepth 100000 in
set_option maxHeartbeats 400000 in
theorem lsame_eq (V1 V2 : Value) (z : Int) (w : World) (h1 : IntRep w V1 z) (h2 : IntRep w V2 z) (hm : (dig z.natAbs).length ≤ 1000000) :
    Calls Tryd.prog 15 #[V1, V2] w fun e w' => e = .returned (.bool true) ∧ Keeps w w' := by
  obtain ⟨v1, rfl, hv1⟩ := h1
  obtain ⟨v2, rfl, hv2⟩ := h2
  have hkk := keep2 w (.cells #[.bool (decide (z < 0)), v1] 24) (.cells #[.bool (decide (z < 0)), v2] 24)
  have hG := Lib.hid (same_eq (.agg #[.bool (decide (z < 0)), v1]) (.agg #[.bool (decide (z < 0)), v2]) z _ ⟨v1, rfl, hv1.below hkk⟩ ⟨v2, rfl, hv2.below hkk⟩ hm)
  go_enter Tryd.func15, Tryd.ntmps15
  go_wp2_with fail
  refine hG.out.mono ?_
  rintro e w1 ⟨rfl, hk1⟩
  go_wp2
  go_ret
  exact ⟨rfl, hkk.trans' hk1⟩

/-- the lengths of the integers of a row of them: at most 12 each? -/
def shortB (ns : List Nat) : Bool := ns.all fun n => decide (n ≤ 12)
set_option maxRecDepth 100000 in
set_option maxHeartbeats 400000 in
theorem short_any (ns : List Nat) (b : Nat) (f : Nat → Bool) (A : Nat → Option Addr) (c : Nat → Nat) (m : Nat) (w : World) (e : ns.length = m) (hm : m ≤ 100)
    (hb : b < w.heap.size) (h0 : ∀ j, j < m → w.cell? ⟨b, j * 2, none⟩ = some (.bool (f j))) (h1 : ∀ j, j < m → w.cell? ⟨b, j * 2 + 1, none⟩ = some (.slice (A j) (ix ns j) (c j))) (hn : ∀ j, ix ns j ≤ 9223372036854775807) :
    Calls Tryd.prog 12 #[.slice (some ⟨b, 0, none⟩) m m] w fun e w' => e = .returned (.bool (shortB ns)) ∧ Keeps w w' := by
  have HE := Lib.hid e
  clear e
  go_enter Tryd.func12, Tryd.ntmps12
  go_wp2
  go_loopw [7] (fun i wr => ∃ k : Nat, k ≤ m ∧ i = .int .i64 (k : Nat) ∧ shortB (ns.take k) = true ∧ Keeps w wr) (fun i _ => m - (intOf i).toNat)
  case atStart => exact ⟨0, by omega, rfl, rfl, Below.refl _ _⟩
  case round =>
    obtain ⟨k, hk, rfl, hs, hkr⟩ := hrel
    have HS := Lib.hid hs
    clear hs
    by_cases hlt : k < m
    · have g0 : wr.cell? ⟨b, k * 2, none⟩ = some (.bool (f k)) := (hkr.cell (p := ⟨b, k * 2, none⟩) hb).trans (h0 k hlt)
      have g1 : wr.cell? ⟨b, k * 2 + 1, none⟩ = some (.slice (A k) (ix ns k) (c k)) := (hkr.cell (p := ⟨b, k * 2 + 1, none⟩) hb).trans (h1 k hlt)
      have hl := hn k
      have hstep : shortB (ns.take (k + 1)) = (shortB (ns.take k) && decide (ix ns k ≤ 12)) := by
        unfold shortB; rw [take_snoc ns k (by rw [HE.out]; exact hlt), List.all_append]; simp
      have HT := Lib.hid hstep
      clear hstep
      by_cases h12 : ix ns k ≤ 12
      · have hd : decide ((12 : Int) < (ix ns k : Int)) = false := decide_eq_false (by omega)
        go_wp2
        go_roundw
        case rel => exact ⟨k + 1, by omega, by go_num, by rw [HT.out, HS.out, decide_eq_true h12]; rfl, Below.alloc hkr hkr.size _⟩
        case measure => simp [intOf]; omega
      · have hd : decide ((12 : Int) < (ix ns k : Int)) = true := decide_eq_true (by omega)
        have hfin : shortB ns = false := by
          unfold shortB
          rw [List.all_eq_false]
          exact ⟨ix ns k, by rw [ix_get ns k (by rw [HE.out]; exact hlt)]; exact List.getElem_mem _, by simpa using h12⟩
        have HF := Lib.hid hfin
        have H12 := Lib.hid h12
        clear hfin h12
        go_wp2
        go_ret
        exact ⟨by rw [HF.out]; rfl, Below.alloc hkr hkr.size _⟩
    · obtain rfl : k = m := by omega
      go_wp2
      go_ret
      exact ⟨ret_bool (by have := HS.out; rwa [← HE.out, List.take_length] at this), hkr⟩
def sel {α : Type} (a b c : α) : Nat → α | 0 => a | 1 => b | _ => c
theorem short3 (n1 n2 n3 : Bool) (A1 A2 A3 : Option Addr) (p1 p2 p3 q1 q2 q3 B : Nat) (w : World) (hB : Own w B 24 [.bool n1, .slice A1 p1 q1, .bool n2, .slice A2 p2 q2, .bool n3, .slice A3 p3 q3])
    (h1 : p1 ≤ 9223372036854775807) (h2 : p2 ≤ 9223372036854775807) (h3 : p3 ≤ 9223372036854775807) :
    Calls Tryd.prog 12 #[.slice (some ⟨B, 0, none⟩) 3 3] w fun e w' => e = .returned (.bool (shortB [p1, p2, p3])) ∧ Keeps w w' := by
  refine short_any [p1, p2, p3] B (sel n1 n2 n3) (sel A1 A2 A3) (sel q1 q2 q3) 3 w rfl (by omega) hB.lt (fun j hj => ?_) (fun j hj => ?_) (fun j => ?_)
  · match j, hj with
    | 0, _ => exact hB.cell 0
    | 1, _ => exact hB.cell 2
    | 2, _ => exact hB.cell 4
  · match j, hj with
    | 0, _ => exact hB.cell 1
    | 1, _ => exact hB.cell 3
    | 2, _ => exact hB.cell 5
  · match j with
    | 0 => exact h1
    | 1 => exact h2
    | 2 => exact h3
    | j + 3 => simp [ix]
theorem short2 (n1 n2 : Bool) (A1 A2 : Option Addr) (p1 p2 q1 q2 B : Nat) (w : World) (hB : Own w B 24 [.bool n1, .slice A1 p1 q1, .bool n2, .slice A2 p2 q2])
    (h1 : p1 ≤ 9223372036854775807) (h2 : p2 ≤ 9223372036854775807) :
    Calls Tryd.prog 12 #[.slice (some ⟨B, 0, none⟩) 2 2] w fun e w' => e = .returned (.bool (shortB [p1, p2])) ∧ Keeps w w' := by
  refine short_any [p1, p2] B (sel n1 n2 n2) (sel A1 A2 A2) (sel q1 q2 q2) 2 w rfl (by omega) hB.lt (fun j hj => ?_) (fun j hj => ?_) (fun j => ?_)
  · match j, hj with
    | 0, _ => exact hB.cell 0
    | 1, _ => exact hB.cell 2
  · match j, hj with
    | 0, _ => exact hB.cell 1
    | 1, _ => exact hB.cell 3
  · match j with
    | 0 => exact h1
    | 1 => exact h2
    | j + 2 => simp [ix]
theorem short1 (n1 : Bool) (A1 : Option Addr) (p1 q1 B : Nat) (w : World) (hB : Own w B 24 [.bool n1, .slice A1 p1 q1])
    (h1 : p1 ≤ 9223372036854775807) :
    Calls Tryd.prog 12 #[.slice (some ⟨B, 0, none⟩) 1 1] w fun e w' => e = .returned (.bool (shortB [p1])) ∧ Keeps w w' := by
  refine short_any [p1] B (fun _ => n1) (fun _ => A1) (fun _ => q1) 1 w rfl (by omega) hB.lt (fun j hj => ?_) (fun j hj => ?_) (fun j => ?_)
  · match j, hj with
    | 0, _ => exact hB.cell 0
  · match j, hj with
    | 0, _ => exact hB.cell 1
  · match j with
    | 0 => exact h1
    | j + 1 => simp [ix]
end Go.Proofs.YthgbgoidnnfapaaDoor
