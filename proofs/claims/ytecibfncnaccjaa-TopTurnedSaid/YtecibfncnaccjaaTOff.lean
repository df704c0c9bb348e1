/- corner.floor, offset, checked, Scores; fiducialref20.Asked: the walks. -/
import Derived.Test.YtecibfncnaccjaaTSco
namespace Go.Proofs.Ytecibfncnaccjaa
open Go.RowKit Go.Shelf
def floP (n d : Int) : Int := if n.tmod d < 0 then n.tdiv d - 1 else n.tdiv d
def offI (b a c : Int) : Int := if 0 ≤ b - 2 * a + c then 0 else min (max (floP (64 * (c - b) - (b - 2 * a + c)) (-2 * (b - 2 * a + c))) (-32)) 32
theorem offI_bd (b a c : Int) : -32 ≤ offI b a c ∧ offI b a c ≤ 32 := by
  unfold offI
  split <;> omega
theorem tdiv_bd {n d : Int} {B : Int} (h : -B ≤ n ∧ n ≤ B) : -B ≤ n.tdiv d ∧ n.tdiv d ≤ B := by
  have h1 : (n.tdiv d).natAbs ≤ n.natAbs := by
    rw [Int.natAbs_tdiv]
    exact Nat.div_le_self _ _
  omega
theorem tmod_bd {n d : Int} {B : Int} (h : -B ≤ n ∧ n ≤ B) : -B ≤ n.tmod d ∧ n.tmod d ≤ B := by
  have h1 : (n.tmod d).natAbs ≤ n.natAbs := by
    rw [Int.natAbs_tmod]
    exact Nat.mod_le _ _
  omega
set_option maxRecDepth 100000 in
theorem floor_any (w : World) (n d : Int) (hn : -1000000000000000000 ≤ n ∧ n ≤ 1000000000000000000) (hd : 0 < d) (hd2 : d ≤ 1000000000000000000) : Calls Try.prog 27 #[.int .i64 n, .int .i64 d] w fun e w' => e = .returned (.int .i64 (floP n d)) ∧ w' = w := by
  obtain ⟨a1, a2⟩ := tdiv_bd (d := d) hn
  obtain ⟨b1, b2⟩ := tmod_bd (d := d) hn
  have hd0 : d ≠ 0 := by omega
  have hdm : d ≠ -1 := by omega
  have hz : (d == 0) = false := by simpa using hd0
  have HF : Hid (floP n d = if n.tmod d < 0 then n.tdiv d - 1 else n.tdiv d) := Lib.hid rfl
  obtain ⟨q, hq⟩ : ∃ q, n.tdiv d = q := ⟨_, rfl⟩
  obtain ⟨r, hr⟩ : ∃ r, n.tmod d = r := ⟨_, rfl⟩
  rw [hq] at a1 a2 HF
  rw [hr] at b1 b2 HF
  obtain ⟨n1, n2⟩ := hn
  by_cases h : r < 0
  · have t1 : decide (r < 0) = true := decide_eq_true h
    rw [if_pos h] at HF
    go_enter Try.func27, Try.ntmps27
    go_wp2
    go_ret
    exact ⟨by rw [HF.out]; rfl, rfl⟩
  · have t1 : decide (r < 0) = false := decide_eq_false h
    rw [if_neg h] at HF
    go_enter Try.func27, Try.ntmps27
    go_wp2
    go_ret
    exact ⟨by rw [HF.out]; rfl, rfl⟩
theorem run_max2 (P : Program) (u : World) (ts : Array TypeId) (t : TypeId) (x y : Int) : (Builtin.max_ ts t #[.int .i64 x, .int .i64 y]).run P u = .ok (.int .i64 (max x y)) u := by
  have h1 : (if x < y then y else x) = max x y := by split <;> omega
  simp [Builtin.max_, Builtin.max2, h1]
theorem run_min2 (P : Program) (u : World) (ts : Array TypeId) (t : TypeId) (x y : Int) : (Builtin.min_ ts t #[.int .i64 x, .int .i64 y]).run P u = .ok (.int .i64 (min x y)) u := by
  have h1 : (if y < x then y else x) = min x y := by split <;> omega
  simp [Builtin.min_, Builtin.min2, h1]
set_option maxRecDepth 100000 in
theorem offset_any (w : World) (b a c : Int) (hb : -3000000000000000 ≤ b ∧ b ≤ 3000000000000000) (ha : -3000000000000000 ≤ a ∧ a ≤ 3000000000000000) (hc : -3000000000000000 ≤ c ∧ c ≤ 3000000000000000) : Calls Try.prog 17 #[.int .i64 b, .int .i64 a, .int .i64 c] w fun e w' => e = .returned (.int .i64 (offI b a c)) ∧ w' = w := by
  obtain ⟨d, hd⟩ : ∃ d, b - 2 * a + c = d := ⟨_, rfl⟩
  have HO : Hid (offI b a c = if 0 ≤ d then 0 else min (max (floP (64 * (c - b) - d) (-2 * d)) (-32)) 32) := Lib.hid (by unfold offI; rw [hd])
  have hd1 : -12000000000000000 ≤ d := by omega
  have hd2 : d ≤ 12000000000000000 := by omega
  obtain ⟨b1, b2⟩ := hb
  obtain ⟨a1, a2⟩ := ha
  obtain ⟨c1, c2⟩ := hc
  by_cases h : 0 ≤ d
  · have t1 : decide (0 ≤ d) = true := decide_eq_true h
    rw [if_pos h] at HO
    go_enter Try.func17, Try.ntmps17
    go_wp2
    go_ret
    exact ⟨by rw [HO.out]; rfl, rfl⟩
  · have t1 : decide (0 ≤ d) = false := decide_eq_false h
    rw [if_neg h] at HO
    have HF := Lib.hid (floor_any w (64 * (c - b) - d) (-2 * d) (by omega) (by omega) (by omega))
    obtain ⟨f, hf⟩ : ∃ f, floP (64 * (c - b) - d) (-2 * d) = f := ⟨_, rfl⟩
    rw [hf] at HO HF
    have hm1 := fun u ts t => run_max2 Try.prog u ts t f (-32)
    have hm2 := fun u ts t => run_min2 Try.prog u ts t (max f (-32)) 32
    obtain ⟨m, hm⟩ : ∃ m, max f (-32) = m := ⟨_, rfl⟩
    rw [hm] at hm1 hm2 HO
    clear hf hm
    go_enter Try.func17, Try.ntmps17
    go_wp2_with fail
    refine HF.out.mono ?_
    rintro e w1 ⟨rfl, rfl⟩
    go_wp2
    go_ret
    exact ⟨by rw [HO.out]; rfl, rfl⟩
/-- a code -/
def askC (W H m : Int) (px : List Int) : Int := if rasC W H m px = 0 then (if 1023 < m then 3 else 0) else 1
set_option maxRecDepth 100000 in
set_option maxHeartbeats 1000000 in
theorem checked_any {w : World} {A : Option Addr} {c : Nat} {px : List Int} (hr : IRow w A px) (W H m : Int) (hl : px.length ≤ maxLen) :
    Calls Try.prog 14 #[.agg #[.int .i64 W, .int .i64 H, .int .i64 m, .slice A px.length c]] w fun e w' => e = .returned (.int .i64 (askC W H m px)) ∧ Keeps w w' := by
  obtain ⟨W0, hW0⟩ : ∃ W0, w.alloc (.cells #[.int .i64 W, .int .i64 H, .int .i64 m, .slice A px.length c] 24) = W0 := ⟨_, rfl⟩
  have hk0 : Keeps w W0 := hW0 ▸ box2 w _
  have q0 : Own W0 w.heap.size 24 [.int .i64 W, .int .i64 H, .int .i64 m, .slice A px.length c] := hW0 ▸ Own.new w _ _
  have HC := Lib.hid (rcheck_any (c := c) (hr.below hk0) W H m hl)
  have hrc : rasC W H m px = 0 ∨ rasC W H m px = 1 := by unfold rasC; split <;> simp
  have HA : Hid (askC W H m px = if rasC W H m px = 0 then (if 1023 < m then 3 else 0) else 1) := Lib.hid rfl
  obtain ⟨k, hk⟩ : ∃ k, rasC W H m px = k := ⟨_, rfl⟩
  rw [hk] at HC hrc HA
  clear hr hl hk
  have x0 := q0.cell 0
  have x1 := q0.cell 1
  have x2 := q0.cell 2
  have x3 := q0.cell 3
  simp only [List.getElem?_cons_zero, List.getElem?_cons_succ] at x0 x1 x2 x3
  rcases hrc with rfl | rfl
  · by_cases h : 1023 < m
    · have t1 : decide ((1023 : Int) < m) = true := decide_eq_true h
      rw [if_pos rfl, if_pos h] at HA
      go_enter Try.func14, Try.ntmps14
      go_wp2_with fail
      refine HC.out.mono ?_
      rintro e w2 ⟨rfl, hk2⟩
      have q2 := q0.below hk2
      clear x0 x1 x2 x3
      have x0 := q2.cell 0
      have x1 := q2.cell 1
      have x2 := q2.cell 2
      have x3 := q2.cell 3
      simp only [List.getElem?_cons_zero, List.getElem?_cons_succ] at x0 x1 x2 x3
      go_wp2
      go_ret
      exact ⟨by rw [HA.out]; rfl, hk0.trans' hk2⟩
    · have t1 : decide ((1023 : Int) < m) = false := decide_eq_false h
      rw [if_pos rfl, if_neg h] at HA
      go_enter Try.func14, Try.ntmps14
      go_wp2_with fail
      refine HC.out.mono ?_
      rintro e w2 ⟨rfl, hk2⟩
      have q2 := q0.below hk2
      clear x0 x1 x2 x3
      have x0 := q2.cell 0
      have x1 := q2.cell 1
      have x2 := q2.cell 2
      have x3 := q2.cell 3
      simp only [List.getElem?_cons_zero, List.getElem?_cons_succ] at x0 x1 x2 x3
      go_wp2
      go_ret
      exact ⟨by rw [HA.out]; rfl, hk0.trans' hk2⟩
  · rw [if_neg (by decide)] at HA
    go_enter Try.func14, Try.ntmps14
    go_wp2_with fail
    refine HC.out.mono ?_
    rintro e w2 ⟨rfl, hk2⟩
    have q2 := q0.below hk2
    clear x0 x1 x2 x3
    have x0 := q2.cell 0
    have x1 := q2.cell 1
    have x2 := q2.cell 2
    have x3 := q2.cell 3
    simp only [List.getElem?_cons_zero, List.getElem?_cons_succ] at x0 x1 x2 x3
    go_wp2
    go_ret
    exact ⟨by rw [HA.out]; rfl, hk0.trans' hk2⟩
set_option maxRecDepth 100000 in
set_option maxHeartbeats 1000000 in
theorem asked_any {w : World} {A : Option Addr} {c : Nat} {px : List Int} (hr : IRow w A px) (W H m : Int) (hl : px.length ≤ maxLen) :
    Calls Try.prog 5 #[.agg #[.int .i64 W, .int .i64 H, .int .i64 m, .slice A px.length c]] w fun e w' => e = .returned (.int .i64 (askC W H m px)) ∧ Keeps w w' := by
  obtain ⟨W0, hW0⟩ : ∃ W0, w.alloc (.cells #[.int .i64 W, .int .i64 H, .int .i64 m, .slice A px.length c] 24) = W0 := ⟨_, rfl⟩
  have hk0 : Keeps w W0 := hW0 ▸ box2 w _
  have q0 : Own W0 w.heap.size 24 [.int .i64 W, .int .i64 H, .int .i64 m, .slice A px.length c] := hW0 ▸ Own.new w _ _
  have HC := Lib.hid (dcheck_any (c := c) (hr.below hk0) W H m hl)
  have hrc : rasC W H m px = 0 ∨ rasC W H m px = 1 := by unfold rasC; split <;> simp
  have HA : Hid (askC W H m px = if rasC W H m px = 0 then (if 1023 < m then 3 else 0) else 1) := Lib.hid rfl
  obtain ⟨k, hk⟩ : ∃ k, rasC W H m px = k := ⟨_, rfl⟩
  rw [hk] at HC hrc HA
  clear hr hl hk
  have x0 := q0.cell 0
  have x1 := q0.cell 1
  have x2 := q0.cell 2
  have x3 := q0.cell 3
  simp only [List.getElem?_cons_zero, List.getElem?_cons_succ] at x0 x1 x2 x3
  rcases hrc with rfl | rfl
  · by_cases h : 1023 < m
    · have t1 : decide ((1023 : Int) < m) = true := decide_eq_true h
      rw [if_pos rfl, if_pos h] at HA
      go_enter Try.func5, Try.ntmps5
      go_wp2_with fail
      refine HC.out.mono ?_
      rintro e w2 ⟨rfl, hk2⟩
      have q2 := q0.below hk2
      clear x0 x1 x2 x3
      have x0 := q2.cell 0
      have x1 := q2.cell 1
      have x2 := q2.cell 2
      have x3 := q2.cell 3
      simp only [List.getElem?_cons_zero, List.getElem?_cons_succ] at x0 x1 x2 x3
      go_wp2
      go_ret
      exact ⟨by rw [HA.out]; rfl, hk0.trans' hk2⟩
    · have t1 : decide ((1023 : Int) < m) = false := decide_eq_false h
      rw [if_pos rfl, if_neg h] at HA
      go_enter Try.func5, Try.ntmps5
      go_wp2_with fail
      refine HC.out.mono ?_
      rintro e w2 ⟨rfl, hk2⟩
      have q2 := q0.below hk2
      clear x0 x1 x2 x3
      have x0 := q2.cell 0
      have x1 := q2.cell 1
      have x2 := q2.cell 2
      have x3 := q2.cell 3
      simp only [List.getElem?_cons_zero, List.getElem?_cons_succ] at x0 x1 x2 x3
      go_wp2
      go_ret
      exact ⟨by rw [HA.out]; rfl, hk0.trans' hk2⟩
  · rw [if_neg (by decide)] at HA
    go_enter Try.func5, Try.ntmps5
    go_wp2_with fail
    refine HC.out.mono ?_
    rintro e w2 ⟨rfl, hk2⟩
    have q2 := q0.below hk2
    clear x0 x1 x2 x3
    have x0 := q2.cell 0
    have x1 := q2.cell 1
    have x2 := q2.cell 2
    have x3 := q2.cell 3
    simp only [List.getElem?_cons_zero, List.getElem?_cons_succ] at x0 x1 x2 x3
    go_wp2
    go_ret
    exact ⟨by rw [HA.out]; rfl, hk0.trans' hk2⟩
theorem askC_ok {W H m : Int} {px : List Int} : askC W H m px = 0 ↔ rasC W H m px = 0 ∧ m ≤ 1023 := by
  unfold askC
  split
  · rename_i h
    split <;> simp [h] <;> omega
  · rename_i h
    simp [h]
theorem px_le {W H : Nat} {m : Int} {px : List Int} (hv : rasC W H m px = 0) : px.length ≤ 4096 := by
  obtain ⟨hW, hH, -, hl, -⟩ := rasC_ok hv
  rw [hl]
  exact Nat.mul_le_mul hW.2 hH.2
set_option maxRecDepth 100000 in
set_option maxHeartbeats 1000000 in
theorem scoresC_any {w : World} {A : Option Addr} {c : Nat} {px : List Int} {W H : Nat} {m : Int} (hr : IRow w A px) (hv : rasC W H m px = 0) (hm : m ≤ 1023) :
    Calls Try.prog 6 #[.agg #[.int .i64 (W : Nat), .int .i64 (H : Nat), .int .i64 m, .slice A px.length c]] w fun e w' => ∃ A c, e = .returned (.tuple #[.slice A (scoL W H px).length c, .int .i64 0]) ∧ IRow w' A (scoL W H px) ∧ Keeps w w' := by
  obtain ⟨W0, hW0⟩ : ∃ W0, w.alloc (.cells #[.int .i64 (W : Nat), .int .i64 (H : Nat), .int .i64 m, .slice A px.length c] 24) = W0 := ⟨_, rfl⟩
  have hk0 : Keeps w W0 := hW0 ▸ box2 w _
  have q0 : Own W0 w.heap.size 24 [.int .i64 (W : Nat), .int .i64 (H : Nat), .int .i64 m, .slice A px.length c] := hW0 ▸ Own.new w _ _
  have HC := Lib.hid (checked_any (c := c) (hr.below hk0) (W : Int) (H : Int) m (by have := px_le hv; simp only [maxLen]; omega))
  rw [askC_ok.2 ⟨hv, hm⟩] at HC
  have HR := Lib.hid (hr.below hk0)
  have HV := Lib.hid hv
  have HM := Lib.hid hm
  clear hr hv hm
  have x0 := q0.cell 0
  have x1 := q0.cell 1
  have x2 := q0.cell 2
  have x3 := q0.cell 3
  simp only [List.getElem?_cons_zero, List.getElem?_cons_succ] at x0 x1 x2 x3
  go_enter Try.func6, Try.ntmps6
  go_wp2_with fail
  refine HC.out.mono ?_
  rintro e w2 ⟨rfl, hk2⟩
  have q2 := q0.below hk2
  have HS := Lib.hid (scores_any (c := c) (HR.out.below hk2) HV.out HM.out)
  clear x0 x1 x2 x3
  have x0 := q2.cell 0
  have x1 := q2.cell 1
  have x2 := q2.cell 2
  have x3 := q2.cell 3
  simp only [List.getElem?_cons_zero, List.getElem?_cons_succ] at x0 x1 x2 x3
  go_wp2_with fail
  refine HS.out.mono ?_
  rintro e w3 ⟨A3, c3, rfl, hr3, hk3⟩
  go_wp2
  go_ret2
  exact ⟨A3, c3, rfl, hr3, (hk0.trans' hk2).trans' hk3⟩
end Go.Proofs.Ytecibfncnaccjaa
