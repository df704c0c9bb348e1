/- sameRaster, same, few, small: the walks. -/
import Derived.Test.YtbkcnhbdjllojaaDec
namespace Go.Proofs.Ytbkcnhbdjllojaa
open Go.RowKit Go.Shelf
attribute [local go_sem] Oper.semAt_some

set_option maxRecDepth 100000 in
set_option maxHeartbeats 1000000 in
theorem sameRaster_yes {w : World} {A B : Option Addr} {n n' c d : Nat} {px : List Int} (hA : IRow w A px) (hB : IRow w B px) (hn : n = px.length) (hn' : n' = px.length) (hl : px.length ≤ 100000) (W H m : Int) :
    Calls Try.prog 27 #[rasV W H m (.slice A n c), rasV W H m (.slice B n' d)] w fun e w' => e = .returned (.bool true) ∧ Keeps w w' := by
  subst hn hn'
  obtain ⟨W2, hW2⟩ : ∃ W2, (w.alloc (.cells #[.int .i64 W, .int .i64 H, .int .i64 m, .slice A px.length c] 25)).alloc (.cells #[.int .i64 W, .int .i64 H, .int .i64 m, .slice B px.length d] 25) = W2 := ⟨_, rfl⟩
  have g1 : Own W2 w.heap.size 25 [.int .i64 W, .int .i64 H, .int .i64 m, .slice A px.length c] := hW2 ▸ (Own.new w _ _).alloc _
  have g2 : Own W2 (w.heap.size + 1) 25 [.int .i64 W, .int .i64 H, .int .i64 m, .slice B px.length d] := hW2 ▸ own2 w _ _ _
  have hk0 : Keeps w W2 := hW2 ▸ keep2 w _ _
  have HA := Lib.hid (hA.below hk0)
  have HB := Lib.hid (hB.below hk0)
  have HG1 := Lib.hid g1
  have HG2 := Lib.hid g2
  have hlI : (px.length : Int) ≤ 100000 := by omega
  have x0 := g1.cell 0
  have x1 := g1.cell 1
  have x2 := g1.cell 2
  have x3 := g1.cell 3
  have y0 := g2.cell 0
  have y1 := g2.cell 1
  have y2 := g2.cell 2
  have y3 := g2.cell 3
  simp only [List.getElem?_cons_zero, List.getElem?_cons_succ] at x0 x1 x2 x3 y0 y1 y2 y3
  clear hA hB
  go_enter Try.func27, Try.ntmps27
  go_wp2
  clear x0 x1 x2 x3 y0 y1 y2 y3 g1 g2 hW2
  go_loopw [37] (fun i wr => ∃ k : Nat, k ≤ px.length ∧ i = .int .i64 (k : Nat) ∧ Keeps W2 wr) (fun i _ => px.length - (intOf i).toNat)
  case atStart => exact ⟨0, Nat.zero_le _, rfl, Below.refl _ _⟩
  case round =>
    obtain ⟨k, hkd, rfl, hk⟩ := hrel
    by_cases hlt : k < px.length
    · have hkI : (k : Int) < px.length := by omega
      have x3 := (HG1.out.below hk).cell 3
      have y3 := (HG2.out.below hk).cell 3
      simp only [List.getElem?_cons_zero, List.getElem?_cons_succ] at x3 y3
      obtain ⟨b, o, rfl, c1⟩ := IRow.at (HA.out.below hk) (j := k) hlt
      obtain ⟨b', o', rfl, c2⟩ := IRow.at (HB.out.below hk) (j := k) hlt
      generalize px.getD k 0 = x at *
      go_wp2
      go_quiet (fail)
      go_wp2
      go_roundw
      case rel => exact ⟨k + 1, by omega, by go_num, below_drewN hk _⟩
      case measure => simp [intOf]; omega
    · obtain rfl : k = px.length := by omega
      go_wp2
      go_ret
      exact ⟨rfl, hk0.trans' hk⟩
set_option maxRecDepth 100000 in
set_option maxHeartbeats 1000000 in
theorem same_yes {w : World} {A B A' B' : Option Addr} {n n' p p' c d c' d' : Nat} {es : List Ent} {px : List Int} (hE : EntR w A es) (hE' : EntR w A' es) (hA : IRow w B px) (hB : IRow w B' px)
    (hn : n = es.length) (hn' : n' = es.length) (hp : p = px.length) (hp' : p' = px.length) (hl : px.length ≤ 100000) (hel : es.length ≤ 100000) (W H m : Int) :
    Calls Try.prog 21 #[frmV A n c W H m B p d, frmV A' n' c' W H m B' p' d'] w fun e w' => e = .returned (.bool true) ∧ Keeps w w' := by
  subst hn hn' hp hp'
  obtain ⟨W2, hW2⟩ : ∃ W2, (w.alloc (.cells #[.slice A es.length c, .int .i64 W, .int .i64 H, .int .i64 m, .slice B px.length d] 27)).alloc (.cells #[.slice A' es.length c', .int .i64 W, .int .i64 H, .int .i64 m, .slice B' px.length d'] 27) = W2 := ⟨_, rfl⟩
  have g1 : Own W2 w.heap.size 27 [.slice A es.length c, .int .i64 W, .int .i64 H, .int .i64 m, .slice B px.length d] := hW2 ▸ (Own.new w _ _).alloc _
  have g2 : Own W2 (w.heap.size + 1) 27 [.slice A' es.length c', .int .i64 W, .int .i64 H, .int .i64 m, .slice B' px.length d'] := hW2 ▸ own2 w _ _ _
  have hk0 : Keeps w W2 := hW2 ▸ keep2 w _ _
  have HS := Lib.hid (sameRaster_yes (c := d) (d := d') (hA.below hk0) (hB.below hk0) rfl rfl hl W H m)
  have hlI : (es.length : Int) ≤ 100000 := by omega
  have x0 := g1.cell 0
  have x1 := g1.cell 1
  have x2 := g1.cell 2
  have x3 := g1.cell 3
  have x4 := g1.cell 4
  have y0 := g2.cell 0
  have y1 := g2.cell 1
  have y2 := g2.cell 2
  have y3 := g2.cell 3
  have y4 := g2.cell 4
  simp only [List.getElem?_cons_zero, List.getElem?_cons_succ] at x0 x1 x2 x3 x4 y0 y1 y2 y3 y4
  have HE := Lib.hid (hE.below hk0)
  have HE' := Lib.hid (hE'.below hk0)
  have HG1 := Lib.hid g1
  have HG2 := Lib.hid g2
  clear hA hB hE hE'
  go_enter Try.func21, Try.ntmps21
  go_wp2_with fail
  refine HS.out.mono ?_
  rintro e w1 ⟨rfl, hk1⟩
  have z0 := (HG1.out.below hk1).cell 0
  have u0 := (HG2.out.below hk1).cell 0
  simp only [List.getElem?_cons_zero] at z0 u0
  go_wp2
  clear x0 x1 x2 x3 x4 y0 y1 y2 y3 y4 g1 g2 hW2 z0 u0
  go_loopw [24] (fun i wr => ∃ k : Nat, k ≤ es.length ∧ i = .int .i64 (k : Nat) ∧ Keeps W2 wr) (fun i _ => es.length - (intOf i).toNat)
  case atStart => exact ⟨0, Nat.zero_le _, rfl, hk1⟩
  case round =>
    obtain ⟨k, hkd, rfl, hk⟩ := hrel
    clear hk1
    by_cases hlt : k < es.length
    · have hkI : (k : Int) < es.length := by omega
      have x3 := (HG1.out.below hk).cell 0
      have y3 := (HG2.out.below hk).cell 0
      simp only [List.getElem?_cons_zero] at x3 y3
      obtain ⟨⟨kk, vv⟩, hkv⟩ : ∃ e, es[k] = e := ⟨_, rfl⟩
      have hj : es[k]? = some (kk, vv) := by rw [← hkv]; exact List.getElem?_eq_getElem hlt
      obtain ⟨b, o, rfl, -, c1, c2⟩ := (HE.out.below hk) k kk vv hj
      obtain ⟨b', o', rfl, -, c3, c4⟩ := (HE'.out.below hk) k kk vv hj
      clear hkv hj
      go_wp2
      go_quiet (fail)
      go_wp2
      go_roundw
      case rel => exact ⟨k + 1, by omega, by go_num, below_drewN hk _⟩
      case measure => simp [intOf]; omega
    · obtain rfl : k = es.length := by omega
      go_wp2
      go_ret
      exact ⟨rfl, hk0.trans' hk⟩
/-- what few asks -/
def Few (es : List Ent) (px : List Int) : Prop := px.length ≤ 200 ∧ es.length ≤ 40 ∧ ∀ e ∈ es, e.1.size ≤ 140 ∧ e.2.size ≤ 140
set_option maxRecDepth 100000 in
set_option maxHeartbeats 1000000 in
theorem few_any {w : World} {A B : Option Addr} {c d : Nat} {es : List Ent} {px : List Int} (hE : EntR w A es) (hl : px.length ≤ maxLen) (hel : es.length ≤ maxLen) (W H m : Int) :
    Calls Try.prog 13 #[frmV A es.length c W H m B px.length d] w fun e w' => ∃ b, e = .returned (.bool b) ∧ (b = true → Few es px) ∧ Keeps w w' := by
  have _ := hel
  obtain ⟨W2, hW2⟩ : ∃ W2, w.alloc (.cells #[.slice A es.length c, .int .i64 W, .int .i64 H, .int .i64 m, .slice B px.length d] 27) = W2 := ⟨_, rfl⟩
  have g1 : Own W2 w.heap.size 27 [.slice A es.length c, .int .i64 W, .int .i64 H, .int .i64 m, .slice B px.length d] := hW2 ▸ Own.new w _ _
  have hk0 : Keeps w W2 := hW2 ▸ (Below.refl _ _).alloc (Nat.le_refl _) _
  have x0 := g1.cell 0
  have x4 := g1.cell 4
  simp only [List.getElem?_cons_zero, List.getElem?_cons_succ] at x0 x4
  have hlI : (px.length : Int) ≤ 9223372036854775807 := by simp only [maxLen] at hl; omega
  by_cases t0 : 200 < px.length
  · have t0I : (200 : Int) < px.length := by omega
    clear hE
    go_enter Try.func13, Try.ntmps13
    go_wp2
    go_ret
    exact ⟨false, rfl, (fun h => by cases h), hk0⟩
  by_cases t1 : 40 < es.length
  · have t1I : (40 : Int) < es.length := by omega
    have t0I : (px.length : Int) ≤ 200 := by omega
    clear hE
    go_enter Try.func13, Try.ntmps13
    go_wp2
    go_ret
    exact ⟨false, rfl, (fun h => by cases h), hk0⟩
  have t1I : (es.length : Int) ≤ 40 := by omega
  have t0I : (px.length : Int) ≤ 200 := by omega
  have HE := Lib.hid (hE.below hk0)
  clear hE
  go_enter Try.func13, Try.ntmps13
  go_wp2
  clear x0 x4 g1 hW2
  go_loopw [19] (fun i wr => ∃ k : Nat, k ≤ es.length ∧ i = .int .i64 (k : Nat) ∧ Hid (∀ j, j < k → ∀ e, es[j]? = some e → e.1.size ≤ 140 ∧ e.2.size ≤ 140) ∧ Keeps W2 wr) (fun i _ => es.length - (intOf i).toNat)
  case atStart => exact ⟨0, Nat.zero_le _, rfl, Lib.hid (fun j h => by omega), Below.refl _ _⟩
  case round =>
    obtain ⟨k, hkd, rfl, HP, hk⟩ := hrel
    by_cases hlt : k < es.length
    · have hkI : (k : Int) < es.length := by omega
      obtain ⟨⟨kk, vv⟩, hkv⟩ : ∃ e, es[k] = e := ⟨_, rfl⟩
      have hj : es[k]? = some (kk, vv) := by rw [← hkv]; exact List.getElem?_eq_getElem hlt
      obtain ⟨b, o, rfl, -, c1, c2⟩ := (HE.out.below hk) k kk vv hj
      have HJ := Lib.hid hj
      clear hkv hj
      by_cases s1 : 140 < kk.size
      · have s1I : (140 : Int) < kk.size := by omega
        go_wp2
        go_ret
        exact ⟨false, rfl, (fun h => by cases h), (hk0.trans' hk).trans' ((Below.refl _ _).alloc (Nat.le_refl _) _)⟩
      by_cases s2 : 140 < vv.size
      · have s1I : (kk.size : Int) ≤ 140 := by omega
        have s2I : (140 : Int) < vv.size := by omega
        go_wp2
        go_ret
        exact ⟨false, rfl, (fun h => by cases h), (hk0.trans' hk).trans' ((Below.refl _ _).alloc (Nat.le_refl _) _)⟩
      have s1I : (kk.size : Int) ≤ 140 := by omega
      have s2I : (vv.size : Int) ≤ 140 := by omega
      have HP2 : Hid (∀ j, j < k + 1 → ∀ e, es[j]? = some e → e.1.size ≤ 140 ∧ e.2.size ≤ 140) := Lib.hid fun j hj e he => by
        rcases Nat.lt_or_ge j k with h | h
        · exact HP.out j h e he
        · obtain rfl : j = k := by omega
          rw [HJ.out] at he
          cases he
          exact ⟨Nat.le_of_not_lt s1, Nat.le_of_not_lt s2⟩
      go_wp2
      go_roundw
      case rel => exact ⟨k + 1, by omega, by go_num, HP2, hk.trans' ((Below.refl _ _).alloc (Nat.le_refl _) _)⟩
      case measure => simp [intOf]; omega
    · obtain rfl : k = es.length := by omega
      go_wp2
      go_ret
      refine ⟨true, rfl, fun _ => ⟨by omega, by omega, fun e he => ?_⟩, hk0.trans' hk⟩
      obtain ⟨j, hj, rfl⟩ := List.mem_iff_getElem.1 he
      exact HP.out j hj _ (List.getElem?_eq_getElem hj)
set_option maxRecDepth 100000 in
set_option maxHeartbeats 1000000 in
theorem small_any {w : World} {A B : Option Addr} {c d : Nat} {es : List Ent} {px : List Int} (hE : EntR w A es) (hl : px.length ≤ maxLen) (hel : es.length ≤ maxLen) (W H m : Int) :
    Calls Try.prog 16 #[frmV A es.length c W H m B px.length d] w fun e w' => ∃ b, e = .returned (.bool b) ∧ (b = true → Few es px ∧ m ≤ 2048) ∧ Keeps w w' := by
  obtain ⟨W2, hW2⟩ : ∃ W2, w.alloc (.cells #[.slice A es.length c, .int .i64 W, .int .i64 H, .int .i64 m, .slice B px.length d] 27) = W2 := ⟨_, rfl⟩
  have g1 : Own W2 w.heap.size 27 [.slice A es.length c, .int .i64 W, .int .i64 H, .int .i64 m, .slice B px.length d] := hW2 ▸ Own.new w _ _
  have hk0 : Keeps w W2 := hW2 ▸ (Below.refl _ _).alloc (Nat.le_refl _) _
  have x0 := g1.cell 0
  have x1 := g1.cell 1
  have x2 := g1.cell 2
  have x3 := g1.cell 3
  have x4 := g1.cell 4
  simp only [List.getElem?_cons_zero, List.getElem?_cons_succ] at x0 x1 x2 x3 x4
  have HF := Lib.hid (few_any (B := B) (c := c) (d := d) (px := px) (hE.below hk0) hl hel W H m)
  clear hE
  go_enter Try.func16, Try.ntmps16
  go_wp2_with fail
  refine HF.out.mono ?_
  rintro e w1 ⟨b, rfl, hb, hk1⟩
  have y3 := (g1.below hk1).cell 3
  simp only [List.getElem?_cons_zero, List.getElem?_cons_succ] at y3
  cases b with
  | false =>
    go_wp2
    go_ret
    exact ⟨false, rfl, (fun h => by cases h), hk0.trans' hk1⟩
  | true =>
    have HB := Lib.hid (hb rfl)
    clear hb
    go_wp2
    go_ret
    exact ⟨_, rfl, fun h => ⟨HB.out, of_decide_eq_true h⟩, hk0.trans' hk1⟩
end Go.Proofs.Ytbkcnhbdjllojaa
