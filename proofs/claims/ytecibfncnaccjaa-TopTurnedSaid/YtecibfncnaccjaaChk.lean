/- Is it a raster? The walks: the program's and the document's. -/
import Derived.Test.YtecibfncnaccjaaResid
namespace Go.Proofs.Ytecibfncnaccjaa
open Go.RowKit Go.Shelf

def rasC (W H m : Int) (px : List Int) : Int :=
  if 1 ≤ W ∧ W ≤ 64 ∧ 1 ≤ H ∧ H ≤ 64 ∧ 1 ≤ m ∧ m ≤ 65535 ∧ (px.length : Int) = W * H ∧ ∀ x ∈ px, 0 ≤ x ∧ x ≤ m then 0 else 1
theorem rasC_no {W H m : Int} {px : List Int} (h : ¬ (1 ≤ W ∧ W ≤ 64 ∧ 1 ≤ H ∧ H ≤ 64 ∧ 1 ≤ m ∧ m ≤ 65535 ∧ (px.length : Int) = W * H ∧ ∀ x ∈ px, 0 ≤ x ∧ x ≤ m)) : rasC W H m px = 1 := if_neg h
theorem any_snoc_no {p : Int → Bool} {l : List Int} {k : Nat} (hk : k < l.length) (h : (l.take k).any p = false) (hp : p (l.getD k 0) = false) : (l.take (k + 1)).any p = false := by
  rw [List.take_succ_eq_append_getElem hk, List.any_append, h, Bool.false_or, List.any_cons, List.any_nil, Bool.or_false]
  simpa [List.getD, hk] using hp
theorem any_yes {p : Int → Bool} {l : List Int} {k : Nat} (hk : k < l.length) (hp : p (l.getD k 0) = true) : l.any p = true := by
  rw [List.any_eq_true]
  exact ⟨l.getD k 0, by simp [List.getD, hk], hp⟩
/-- what a function value says of an int -/
def Says (P : Program) (g : Nat) (lb : Array Value) (p : Int → Bool) (w : World) : Prop := ∀ u, Keeps w u → ∀ x : Int, Calls P g (#[.int .i64 x] ++ lb) u fun e u' => e = .returned (.bool (p x)) ∧ Keeps u u'

section
variable {B : Value}
set_option maxRecDepth 100000 in
set_option maxHeartbeats 1000000 in
theorem cf70_i {w : World} {A : Option Addr} {c : Nat} {px : List Int} (hr : IRow w A px) (hl : px.length ≤ maxLen) (p : Int → Bool) (hp : Says Try.prog 31 #[B] p w) :
    Calls Try.prog 34 #[.slice A px.length c, .func (.func 31) #[] #[B]] w fun e w' => ∃ v : Int, e = .returned (.int .i64 v) ∧ decide (0 ≤ v) = px.any p ∧ Keeps w w' := by
  have hlI : (px.length : Int) ≤ 9223372036854775807 := by simp only [maxLen] at hl; omega
  have HP : Hid (Says Try.prog 31 #[B] p w) := Lib.hid hp
  have HR := Lib.hid hr
  clear hr hp
  go_enter Try.func34, Try.ntmps34
  go_wp2
  go_loopw [8] (fun i wr => ∃ k : Nat, k ≤ px.length ∧ i = .int .i64 (k : Nat) ∧ Hid ((px.take k).any p = false) ∧ Keeps w wr) (fun i _ => px.length - (intOf i).toNat)
  case atStart => exact ⟨0, Nat.zero_le _, rfl, Lib.hid (by simp), Below.refl _ _⟩
  case round =>
    obtain ⟨k, hkd, rfl, HN, hk⟩ := hrel
    by_cases hlt : k < px.length
    · obtain ⟨b, o, rfl, c1⟩ := IRow.at (HR.out.below hk) (j := k) (by omega)
      have HS := Lib.hid (HP.out wr hk (px.getD k 0))
      have HY : Hid (p (px.getD k 0) = true → px.any p = true) := Lib.hid (any_yes hlt)
      have HZ : Hid (p (px.getD k 0) = false → (px.take (k + 1)).any p = false) := Lib.hid (any_snoc_no hlt HN.out)
      generalize px.getD k 0 = x at *
      go_wp2_with fail
      refine HS.out.mono ?_
      rintro e w1 ⟨rfl, hk1⟩
      cases hpx : p x with
      | true =>
        have HT := Lib.hid (HY.out hpx)
        clear hpx
        go_wp2
        go_ret
        exact ⟨_, rfl, by rw [HT.out]; simp, hk.trans' hk1⟩
      | false =>
        have HT := Lib.hid (HZ.out hpx)
        clear hpx
        go_wp2
        go_roundw
        case rel => exact ⟨k + 1, by omega, by go_num, HT, hk.trans' hk1⟩
        case measure => simp [intOf]; omega
    · obtain rfl : k = px.length := by omega
      go_wp2
      go_ret
      exact ⟨_, rfl, by have := HN.out; rw [List.take_of_length_le (Nat.le_refl _)] at this; rw [this]; rfl, hk⟩
set_option maxRecDepth 100000 in
theorem cf70_c {w : World} {A : Option Addr} {c : Nat} {px : List Int} (hr : IRow w A px) (hl : px.length ≤ maxLen) (p : Int → Bool) (hp : Says Try.prog 31 #[B] p w) :
    Calls Try.prog 30 #[.slice A px.length c, .func (.func 31) #[] #[B]] w fun e w' => e = .returned (.bool (px.any p)) ∧ Keeps w w' := by
  have HI := Lib.hid (cf70_i (c := c) hr hl p hp)
  clear hr hp
  go_enter Try.func30, Try.ntmps30
  go_wp2_with fail
  refine HI.out.mono ?_
  rintro e w1 ⟨v, rfl, hv, hk⟩
  have HV := Lib.hid hv
  clear hv
  go_wp2
  all_goals (go_ret; exact ⟨by rw [← HV.out]; rfl, hk⟩)
end
def offM (m x : Int) : Bool := decide (x < 0) || decide (m < x)
set_option maxRecDepth 100000 in
theorem off70 {w : World} {b : Nat} {m : Int} (hm : w.cell? ⟨b, 2, none⟩ = some (.int .i64 m)) (hb : b < w.heap.size) : Says Try.prog 31 #[.pointer (some ⟨b, 0, none⟩)] (offM m) w := fun u hk x => by
  have c2 : u.cell? ⟨b, 2, none⟩ = some (.int .i64 m) := (hk.cell (p := ⟨b, 2, none⟩) hb).trans hm
  clear hm
  show Calls Try.prog 31 #[.int .i64 x, .pointer (some ⟨b, 0, none⟩)] u _
  by_cases t1 : x < 0
  · have HF := Lib.hid (show offM m x = true by unfold offM; simp [t1])
    go_enter Try.func31, Try.ntmps31
    go_wp2
    all_goals (go_ret; exact ⟨by rw [HF.out]; rfl, Below.refl _ _⟩)
  · by_cases t2 : m < x
    · have HF := Lib.hid (show offM m x = true by unfold offM; simp [t2])
      go_enter Try.func31, Try.ntmps31
      go_wp2
      all_goals (go_ret; exact ⟨by rw [HF.out]; first | rfl | (simp; omega), Below.refl _ _⟩)
    · have HF := Lib.hid (show offM m x = false by unfold offM; simp; omega)
      go_enter Try.func31, Try.ntmps31
      go_wp2
      all_goals (go_ret; exact ⟨by rw [HF.out]; first | rfl | (simp; omega), Below.refl _ _⟩)
theorem off_any {m : Int} {px : List Int} : px.any (offM m) = false ↔ ∀ x ∈ px, 0 ≤ x ∧ x ≤ m := by
  rw [List.any_eq_false]
  constructor
  · intro h x hx
    have := h x hx
    unfold offM at this
    simp at this
    omega
  · intro h x hx
    have := h x hx
    unfold offM
    simp
    omega
theorem run_min3 (P : Program) (u : World) (ts : Array TypeId) (t : TypeId) (x y z : Int) : (Builtin.min_ ts t #[.int .i64 x, .int .i64 y, .int .i64 z]).run P u = .ok (.int .i64 (min (min x y) z)) u := by
  have h1 : (if y < x then y else x) = min x y := by split <;> omega
  have h2 : ∀ a : Int, (if z < a then z else a) = min a z := fun a => by split <;> omega
  simp [Builtin.min_, Builtin.min2, h1, h2]
set_option maxRecDepth 100000 in
set_option maxHeartbeats 1000000 in
theorem rcheck_any {w : World} {A : Option Addr} {c : Nat} {px : List Int} (hr : IRow w A px) (W H m : Int) (hl : px.length ≤ maxLen) :
    Calls Try.prog 21 #[.agg #[.int .i64 W, .int .i64 H, .int .i64 m, .slice A px.length c]] w fun e w' => e = .returned (.int .i64 (rasC W H m px)) ∧ Keeps w w' := by
  obtain ⟨W0, hW0⟩ : ∃ W0, w.alloc (.cells #[.int .i64 W, .int .i64 H, .int .i64 m, .slice A px.length c] 24) = W0 := ⟨_, rfl⟩
  have hb : Own W0 w.heap.size 24 [.int .i64 W, .int .i64 H, .int .i64 m, .slice A px.length c] := hW0 ▸ Own.new w _ _
  have l0 : W0.cell? ⟨w.heap.size, 0, none⟩ = some (.int .i64 W) := hb.cell 0
  have l1 : W0.cell? ⟨w.heap.size, 1, none⟩ = some (.int .i64 H) := hb.cell 1
  have l2 : W0.cell? ⟨w.heap.size, 2, none⟩ = some (.int .i64 m) := hb.cell 2
  have l3 : W0.cell? ⟨w.heap.size, 3, none⟩ = some (.slice A px.length c) := hb.cell 3
  have hk0 : Keeps w W0 := hW0 ▸ (Below.refl _ _).alloc (Nat.le_refl _) _
  have hr0 := hr.below hk0
  have hmin := fun u ts t => run_min3 Try.prog u ts t W H m
  obtain ⟨M, hM⟩ : ∃ M, min (min W H) m = M := ⟨_, rfl⟩
  rw [hM] at hmin
  by_cases t1 : M < 1
  · have HF := Lib.hid (rasC_no (W := W) (H := H) (m := m) (px := px) (by omega))
    clear hr hr0 hM
    go_enter Try.func21, Try.ntmps21
    go_wp2
    go_ret
    exact ⟨by rw [HF.out]; rfl, hk0⟩
  have hWH : 1 ≤ W ∧ 1 ≤ H ∧ 1 ≤ m := by omega
  clear hM
  by_cases t2 : 64 < W ∨ 64 < H
  · have HF := Lib.hid (rasC_no (W := W) (H := H) (m := m) (px := px) (by omega))
    clear hr hr0 
    go_enter Try.func21, Try.ntmps21
    go_wp2
    all_goals (go_ret; exact ⟨by rw [HF.out]; rfl, hk0⟩)
  by_cases t3 : 65535 < m
  · have HF := Lib.hid (rasC_no (W := W) (H := H) (m := m) (px := px) (by omega))
    clear hr hr0 
    go_enter Try.func21, Try.ntmps21
    go_wp2
    all_goals (go_ret; exact ⟨by rw [HF.out]; rfl, hk0⟩)
  have hq0 : 0 ≤ W * H := Int.mul_nonneg (by omega) (by omega)
  have hq1 : W * H ≤ 64 * 64 := Int.mul_le_mul (by omega) (by omega) (by omega) (by omega)
  have HQ := Lib.hid (show W * H = W * H from rfl)
  obtain ⟨q, hq⟩ : ∃ q, W * H = q := ⟨_, rfl⟩
  by_cases t4 : (px.length : Int) = W * H
  · have HS := Lib.hid (cf70_c (c := c) hr0 hl _ (off70 l2 hb.lt))
    have HR : Hid (rasC W H m px = if px.any (offM m) then 1 else 0) := Lib.hid (by
      cases ha : px.any (offM m) with
      | true => exact rasC_no fun h => by have := off_any.2 h.2.2.2.2.2.2.2; rw [this] at ha; cases ha
      | false => exact if_pos ⟨by omega, by omega, by omega, by omega, by omega, by omega, t4, off_any.1 ha⟩)
    rw [hq] at hq0 hq1 t4
    have t5 : ((px.length : Int) != q) = false := by simp [t4]
    clear hr hr0
    obtain ⟨r, hr⟩ : ∃ r, px.any (offM m) = r := ⟨_, rfl⟩
    rw [hr] at HS HR
    clear hr
    cases r
    · go_enter Try.func21, Try.ntmps21
      go_wp2_with fail
      all_goals (refine HS.out.mono ?_; rintro e w1 ⟨rfl, hk1⟩; go_wp2; go_ret; exact ⟨by rw [HR.out]; rfl, hk0.trans' hk1⟩)
    · go_enter Try.func21, Try.ntmps21
      go_wp2_with fail
      all_goals (refine HS.out.mono ?_; rintro e w1 ⟨rfl, hk1⟩; go_wp2; go_ret; exact ⟨by rw [HR.out]; rfl, hk0.trans' hk1⟩)
  have HF := Lib.hid (rasC_no (W := W) (H := H) (m := m) (px := px) (fun h => t4 h.2.2.2.2.2.2.1))
  rw [hq] at hq0 hq1 t4
  have t5 : ((px.length : Int) != q) = true := by simp [t4]
  clear hr hr0
  go_enter Try.func21, Try.ntmps21
  go_wp2
  all_goals (go_ret; exact ⟨by rw [HF.out]; rfl, hk0⟩)
set_option maxRecDepth 100000 in
set_option maxHeartbeats 1000000 in
theorem dcheck_any {w : World} {A : Option Addr} {c : Nat} {px : List Int} (hr : IRow w A px) (W H m : Int) (hl : px.length ≤ maxLen) :
    Calls Try.prog 13 #[.agg #[.int .i64 W, .int .i64 H, .int .i64 m, .slice A px.length c]] w fun e w' => e = .returned (.int .i64 (rasC W H m px)) ∧ Keeps w w' := by
  have hlI : (px.length : Int) ≤ 9223372036854775807 := by simp only [maxLen] at hl; omega
  obtain ⟨W0, hW0⟩ : ∃ W0, w.alloc (.cells #[.int .i64 W, .int .i64 H, .int .i64 m, .slice A px.length c] 24) = W0 := ⟨_, rfl⟩
  have hb : Own W0 w.heap.size 24 [.int .i64 W, .int .i64 H, .int .i64 m, .slice A px.length c] := hW0 ▸ Own.new w _ _
  have l0 : W0.cell? ⟨w.heap.size, 0, none⟩ = some (.int .i64 W) := hb.cell 0
  have l1 : W0.cell? ⟨w.heap.size, 1, none⟩ = some (.int .i64 H) := hb.cell 1
  have l2 : W0.cell? ⟨w.heap.size, 2, none⟩ = some (.int .i64 m) := hb.cell 2
  have l3 : W0.cell? ⟨w.heap.size, 3, none⟩ = some (.slice A px.length c) := hb.cell 3
  have hk0 : Keeps w W0 := hW0 ▸ (Below.refl _ _).alloc (Nat.le_refl _) _
  have hr0 := hr.below hk0
  by_cases t0 : W < 1
  · have HF := Lib.hid (rasC_no (W := W) (H := H) (m := m) (px := px) (by omega))
    have d0 : decide (W < 1) = true := by simp; omega
    clear hr hr0
    go_enter Try.func13, Try.ntmps13
    go_wp2
    go_ret
    exact ⟨by rw [HF.out]; rfl, hk0⟩
  have d0 : decide (W < 1) = false := by simp; omega
  by_cases t1 : 64 < W
  · have HF := Lib.hid (rasC_no (W := W) (H := H) (m := m) (px := px) (by omega))
    have d1 : decide (64 < W) = true := by simp; omega
    clear hr hr0
    go_enter Try.func13, Try.ntmps13
    go_wp2
    go_ret
    exact ⟨by rw [HF.out]; rfl, hk0⟩
  have d1 : decide (64 < W) = false := by simp; omega
  by_cases t2 : H < 1
  · have HF := Lib.hid (rasC_no (W := W) (H := H) (m := m) (px := px) (by omega))
    have d2 : decide (H < 1) = true := by simp; omega
    clear hr hr0
    go_enter Try.func13, Try.ntmps13
    go_wp2
    go_ret
    exact ⟨by rw [HF.out]; rfl, hk0⟩
  have d2 : decide (H < 1) = false := by simp; omega
  by_cases t3 : 64 < H
  · have HF := Lib.hid (rasC_no (W := W) (H := H) (m := m) (px := px) (by omega))
    have d3 : decide (64 < H) = true := by simp; omega
    clear hr hr0
    go_enter Try.func13, Try.ntmps13
    go_wp2
    go_ret
    exact ⟨by rw [HF.out]; rfl, hk0⟩
  have d3 : decide (64 < H) = false := by simp; omega
  by_cases t4 : m < 1
  · have HF := Lib.hid (rasC_no (W := W) (H := H) (m := m) (px := px) (by omega))
    have d4 : decide (m < 1) = true := by simp; omega
    clear hr hr0
    go_enter Try.func13, Try.ntmps13
    go_wp2
    go_ret
    exact ⟨by rw [HF.out]; rfl, hk0⟩
  have d4 : decide (m < 1) = false := by simp; omega
  by_cases t5 : 65535 < m
  · have HF := Lib.hid (rasC_no (W := W) (H := H) (m := m) (px := px) (by omega))
    have d5 : decide (65535 < m) = true := by simp; omega
    clear hr hr0
    go_enter Try.func13, Try.ntmps13
    go_wp2
    go_ret
    exact ⟨by rw [HF.out]; rfl, hk0⟩
  have d5 : decide (65535 < m) = false := by simp; omega
  have hq0 : 0 ≤ W * H := Int.mul_nonneg (by omega) (by omega)
  have hq1 : W * H ≤ 64 * 64 := Int.mul_le_mul (by omega) (by omega) (by omega) (by omega)
  obtain ⟨q, hq⟩ : ∃ q, W * H = q := ⟨_, rfl⟩
  rw [hq] at hq0 hq1
  by_cases t7 : (px.length : Int) = q
  · have d7 : ((px.length : Int) != q) = false := by simp [t7]
    have HT : Hid (px.any (offM m) = false → rasC W H m px = 0) := Lib.hid fun ha => if_pos ⟨by omega, by omega, by omega, by omega, by omega, by omega, by omega, off_any.1 ha⟩
    have HF : Hid (px.any (offM m) = true → rasC W H m px = 1) := Lib.hid fun ha => rasC_no fun h => by have := off_any.2 h.2.2.2.2.2.2.2; rw [this] at ha; cases ha
    have HR := Lib.hid hr0
    clear hr hr0
    go_enter Try.func13, Try.ntmps13
    go_wp2
    clear hW0 l0 l1 hq d0 d1 d2 d3 d4 d5 d7
    go_loopw [3] (fun i wr => ∃ k : Nat, k ≤ px.length ∧ i = .int .i64 (k : Nat) ∧ Hid ((px.take k).any (offM m) = false) ∧ Keeps W0 wr) (fun i _ => px.length - (intOf i).toNat)
    case atStart => exact ⟨0, Nat.zero_le _, rfl, Lib.hid (by simp), Below.refl _ _⟩
    case round =>
      obtain ⟨k, hkd, rfl, HN, hk⟩ := hrel
      have hb1 := hb.below hk
      have l2 : wr.cell? ⟨w.heap.size, 2, none⟩ = some (.int .i64 m) := hb1.cell 2
      have l3 : wr.cell? ⟨w.heap.size, 3, none⟩ = some (.slice A px.length c) := hb1.cell 3
      by_cases hlt : k < px.length
      · obtain ⟨b, o, rfl, c1⟩ := IRow.at (HR.out.below hk) (j := k) (by omega)
        have HY : Hid (offM m (px.getD k 0) = true → px.any (offM m) = true) := Lib.hid (any_yes hlt)
        have HZ : Hid (offM m (px.getD k 0) = false → (px.take (k + 1)).any (offM m) = false) := Lib.hid (any_snoc_no hlt HN.out)
        have hkI : (k : Int) < px.length := by omega
        generalize px.getD k 0 = x at *
        by_cases s1 : x < 0
        · have e1 : decide (x < 0) = true := decide_eq_true s1
          have HT2 := Lib.hid (HF.out (HY.out (by unfold offM; simp [s1])))
          go_wp2
          go_quiet (fail)
          go_wp2
          go_ret
          exact ⟨by rw [HT2.out]; rfl, hk0.trans' (below_drewN hk _)⟩
        have e1 : decide (x < 0) = false := decide_eq_false s1
        by_cases s2 : m < x
        · have e2 : decide (m < x) = true := decide_eq_true s2
          have HT2 := Lib.hid (HF.out (HY.out (by unfold offM; simp [s2])))
          go_wp2
          go_quiet (fail)
          go_wp2
          go_ret
          exact ⟨by rw [HT2.out]; rfl, hk0.trans' (below_drewN hk _)⟩
        have e2 : decide (m < x) = false := decide_eq_false s2
        have HT2 := Lib.hid (HZ.out (by unfold offM; simp; omega))
        go_wp2
        go_quiet (fail)
        go_wp2
        go_roundw
        case rel => exact ⟨k + 1, by omega, by go_num, HT2, below_drewN hk _⟩
        case measure => simp [intOf]; omega
      · obtain rfl : k = px.length := by omega
        have HT2 := Lib.hid (HT.out (by have := HN.out; rwa [List.take_of_length_le (Nat.le_refl _)] at this))
        go_wp2
        go_ret
        exact ⟨by rw [HT2.out]; rfl, hk0.trans' hk⟩
  have HF := Lib.hid (rasC_no (W := W) (H := H) (m := m) (px := px) (fun h => by have := h.2.2.2.2.2.2.1; omega))
  have d7 : ((px.length : Int) != q) = true := by simp [t7]
  clear hr hr0
  go_enter Try.func13, Try.ntmps13
  go_wp2
  go_ret
  exact ⟨by rw [HF.out]; rfl, hk0⟩
end Go.Proofs.Ytecibfncnaccjaa
